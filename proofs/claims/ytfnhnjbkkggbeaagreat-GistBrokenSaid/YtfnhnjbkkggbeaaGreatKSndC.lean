/-gist's Sound,plainly-/
import Derived.Test.YtfnhnjbkkggbeaaGreatKDelE
import Derived.Test.YtfnhnjbkkggbeaaGreatKBldA
import Derived.Lib.Builder
set_option linter.unusedVariables false
set_option linter.unusedSimpArgs false
set_option maxHeartbeats 8000000
set_option maxRecDepth 20000
namespace Go.Proofs.YtfnhnjbkkggbeaaGreat
open Go Go.RowKit Pg
theorem q0e {t:Tr} (h:Shape t fun _=>False) {l:Nat} (hl:t.lv t.root=some l):(below t l t.root).length=t.items.length:=by
 refine Nat.le_antisymm (h.below_len hl) ?_
 have hn:(t.items.map (·.1)).Nodup:=by
  rw [List.Nodup,List.pairwise_map]
  exact h.rise.imp fun h e=>by omega
 have:=qhw hn (m:=below t l t.root) fun i hi=>by
  obtain⟨⟨j,x⟩,hx,rfl⟩:=zty.1 hi;exact(h.mem_root hl).2 ⟨fun q=>q,x,qgs h.rise hx⟩
 rwa [zyy] at this
def covI (C:Cl) (t:Tr) (kb:List Nat) (id:Int):Bool:=match getK id t.items with
 | some it=>qja (C.cons kb) [it.ob] [⟨1,qa2 it.ob,[]⟩]&&qep (C.far kb) [it.ob] [(qa2 it.ob).lo]
 | none=>true
def sndT (C:Cl) (t:Tr):Nat->Nat->Bool
 | 0,_=>true
 | l+1,n=>(t.es n).all fun e=>sndT C t l e.kid&&(below t l e.kid).all (covI C t e.kb)
theorem qzf {w:World} {g m c:Nat} {k:Int} {A:Option Addr} {l:List Pt} (h:Blk w g 40 #[.int .i64 k,.slice A m c]) (hp:qal w w.heap.size A m l):qhi w w.heap.size (some ⟨g,0,none⟩) 1 [⟨k,l⟩]:=by
 refine⟨rfl,fun _=>⟨g,0,rfl,h.lt,fun j o ho=> ?_⟩⟩
 match j,ho with
 | 0,ho=>
   simp at ho
   subst ho;exact⟨A,m,c,by rw [h.cell];rfl,by rw [h.cell];rfl,hp⟩
 | j+1,ho=>simp at ho
theorem qyw {w:World} {g:Nat} {k x0 y0 x1 y1:Int} (h:Blk w g 50 #[.int .i64 k,.int .i64 x0,.int .i64 y0,.int .i64 x1,.int .i64 y1,.slice none 0 0]):qfn w w.heap.size (some ⟨g,0,none⟩) 1 [⟨k,⟨⟨x0,y0⟩,⟨x1,y1⟩⟩,[]⟩]:=by
 refine⟨rfl,fun _=>⟨g,0,rfl,h.lt,fun j o ho=> ?_⟩⟩
 match j,ho with
 | 0,ho=>
   simp at ho
   subst ho;exact⟨none,0,0,by rw [h.cell];rfl,by rw [h.cell];rfl,by rw [h.cell];rfl,by rw [h.cell];rfl,by rw [h.cell];rfl,by rw [h.cell];rfl,⟨rfl,fun q=>absurd q oQ⟩⟩
 | j+1,ho=>simp at ho
theorem qyz {w:World} {g:Nat} {x y:Int} (h:Blk w g 46 #[.int .i64 x,.int .i64 y]):qal w w.heap.size (some ⟨g,0,none⟩) 1 [⟨x,y⟩]:=by
 refine⟨rfl,fun _=>⟨g,0,rfl,h.lt,fun j o ho=> ?_⟩⟩
 match j,ho with
 | 0,ho=>
   simp at ho
   subst ho;exact⟨by rw [h.cell];rfl,by rw [h.cell];rfl⟩
 | j+1,ho=>simp at ho
theorem q1w {w:World} {Z:Nat->Prop} {A:Option Addr} {I:List Int} (h:qdv w Z A (idcs I)) {k:Nat} {z:Int} (hz:I[k]? =some z):∃b off,A=some ⟨b,off,none⟩/\b<w.heap.size/\w.cell? ⟨b,off+k,none⟩=some (.int .i64 z):=by
 have hk:k<I.length:=(zsy.1 hz).1;obtain⟨b,off,e,_,hb,hc⟩:=h (by unfold idcs;rw [zyy];omega)
 exact⟨b,off,e,hb,hc k _ (by unfold idcs;rw [zpx,hz];rfl)⟩
theorem qxy {p:Int->Bool} {l:List Int} {k:Nat} {x:Int} (h:l[k]? =some x):(l.take (k+1)).all p=((l.take k).all p&&p x):=by
 rw [zwy,h,Option.toList_some,List.all_append]
 simp
theorem qus {p:Int->Bool} {l:List Int} {k:Nat} {x:Int} (h:l[k]? =some x) (hp:p x=false):l.all p=false:=by
 rw [List.all_eq_false]
 exact⟨x,zjy h,by rw [hp];simp⟩
section
variable {own imm:Nat->Prop} {tb mb:Nat} {t:Tr}
theorem qq3 {C:Cl} {ct:TypeId} {cv:Value} {fM fC fD fU fS:Nat} (hC:ClAt ct cv C fM fC fD fU fS) (w:World) (h:GAt C (.iface ct cv) w own imm tb mb t) (ids:List Int) (n c:Nat) (A:Option Addr) (Z:Nat->Prop) (hids:qdv w Z A (idcs ids)) (hl:ids.length=n) (hn:n<=100000) (hin:∀id∈ids,∃it,getK id t.items=some it)
 (kb:List Nat) (kl ck:Nat) (Ak:Option Addr) (hkb:kb.length=kl) (hk256:∀x∈kb,x<256) (hkl:kl<=1000000) (hkc:kl<=ck) (hAk:Ak=none->ck=0) (hyk:qbm w w.heap.size Ak kl kb):
 C9 69 #[gP tb,.slice Ak kl ck,.slice A n c] w (Ret w (.bool (ids.all (covI C t kb)))):=by
 have HH:=hdQ h;have HIds:=hdQ hids;have HL:=hdQ hl;have HIn:=hdQ hin;have HCo:=hC.cons kb hk256 oQ
 have HFa:=hC.far kb hk256 oQ
 have HCv:=hdQ (fun(o:Ob) (W:World) (A1:Option Addr) (g1 g2 g3 c1:Nat) (x0 y0 x1 y1:Int) (hB:qa2 o=⟨⟨x0,y0⟩,⟨x1,y1⟩⟩) (hW:Below w.heap.size w W) (h1:Blk W g1 40 #[.int .i64 o.kind,.slice A1 o.pts.length c1]) (hp:qal W W.heap.size A1 o.pts.length o.pts) (h2:Blk W g2 50 #[.int .i64 1,.int .i64 x0,.int .i64 y0,.int .i64 x1,.int .i64 y1,.slice none 0 0]) (h3:Blk W g3 46 #[.int .i64 x0,.int .i64 y0]) (hol:o.pts.length<=1000000)=>
  show C9 106 #[.iface ct cv,.slice Ak kl ck,.slice (some ⟨g1,0,none⟩) 1 1,.slice (some ⟨g2,0,none⟩) 1 1,.slice (some ⟨g3,0,none⟩) 1 1] W (Ret W (.bool (qja (C.cons kb) [o] [⟨1,qa2 o, []⟩]&&qep (C.far kb) [o] [(qa2 o).lo]))) from by
   subst hkb
   rw [hB]
   exact quy ct cv fC fD kb (C.cons kb) (C.far kb) hC.mC hC.nC HCo hC.mD hC.nD HFa W.heap.size ck 1 1 1 1 1 1 Ak _ _ _ [o] _ _ W ((hyk.tr hW (zhy _)).more hW.size) hkc hAk hkl (qzf h1 hp) (qyw h2) (qyz h3) (zhy _) dE dE dE (by simpa using hol) sI)
 clear h hids hl hin HCo HFa hC hkb hk256 hkl hkc hAk hyk
 simp only [gP] at*
 go_enter Tryz.func69,Tryz.ntmps69
 go_wp2_with fail
 go_loopw [14] (fun vi wr=>∃i:Nat,i<=n/\vi=.int .i64 i/\(ids.take i).all (covI C t kb)=true/\Below w.heap.size w wr) (fun vi _=>n-(Go.RowKit.intOf vi).toNat)
 case atStart=>exact ⟨0,zly _,rfl,by simp,Below.refl _ _⟩
 case round=>
  obtain⟨i,hin,rfl,hall,hb⟩:=hrel;have HAll:=hdQ hall;have HB:=hdQ hb;clear hall
  by_cases hlt:i<n
  case neg=>
   obtain rfl:n=i:=oQ
   have HT:Hid (ids.all (covI C t kb)=true):=by
    have:=HAll.out
    rw [zmy (by rw [HL.out];exact zhy _)] at this
    exact this
   clear hb hlt;go_wp2_with fail;go_ret;exact⟨qae HT.out.symm,HB.out⟩
  have hn0:(i:Int)<(n:Int):=oQ
  obtain⟨id,hx⟩:∃e,ids[i]? =some e:=⟨ids[i]'(by rw [HL.out];exact hlt),zby _⟩
  have HX:=hdQ hx;obtain⟨b,off,rfl,hbl,s0⟩:=q1w (HIds.out.kept (qag hb) sI) hx
  obtain⟨it,hget⟩:=HIn.out id (zjy hx);have L:=(HH.out.tr hb).lay;obtain⟨u0,u1,u2,u3,ult⟩:=L.c0;obtain⟨⟨hi0,hi1⟩,hck,_⟩:=HH.out.its id it hget;obtain⟨z,hBi,_⟩:=L.it id it hget;obtain⟨Ao,co,eov,_,_,hpts⟩:=(L.ikey id it hget).2.pts;have hpl:=(L.ikey id it hget).2.1;rw [eov] at hBi;obtain⟨q0,q1⟩:=ce2 hBi;have qlt:=hBi.lt
  have hlk:(Instr.lookup 80 (.map (some mb)) (.int .i64 id) false).run Tryz.prog wr=.ok (.pointer (some ⟨it.blk,0,none⟩)) wr:=by
   have:=MapO.look (show MapO _ _ _ (some mb) _ from L.mp) Tryz.underlying3 Tryz.underlying80 (Tryz.zeroItG _) (show -9223372036854775808<=id by omega) (show id<=9223372036854775807 by omega)
   rw [qcy hget] at this;exact this
  obtain⟨⟨⟨x0,y0⟩,x1,y1⟩,hbd⟩:∃X,qa2 it.ob=X:=⟨_,rfl⟩
  have HBo:=hdQ (fun W (hW:Below wr.heap.size wr W)=>show C9 105 #[.agg #[.int .i64 it.ob.kind,.slice Ao it.ob.pts.length co]] W (Ret W (.tuple #[.agg #[.int .i64 x0,.int .i64 y0,.int .i64 x1,.int .i64 y1],.nilIface])) from by
   have:=qpn wr.heap.size it.ob.pts.length co it.ob.kind Ao it.ob.pts W (hpts.below hW) hW.size hpl hck;rw [show (⟨it.ob.kind,it.ob.pts⟩:Ob)=it.ob from rfl,hbd] at this
   exact this)
  have HP:=hdQ hpts;obtain⟨bv,hbv⟩:∃v,covI C t kb id=v:=⟨_,rfl⟩
  have hbv2:(qja (C.cons kb) [it.ob] [⟨1,qa2 it.ob,[]⟩]&&qep (C.far kb) [it.ob] [(qa2 it.ob).lo])=bv:=by
   unfold covI at hbv;rw [hget] at hbv;exact hbv
  have HCv2:=hdQ (fun(W:World) (g1 g2 g3:Nat) (hW:Below wr.heap.size wr W) (h1:Blk W g1 40 #[.int .i64 it.ob.kind,.slice Ao it.ob.pts.length co]) (h2:Blk W g2 50 #[.int .i64 1,.int .i64 x0,.int .i64 y0,.int .i64 x1,.int .i64 y1,.slice none 0 0]) (h3:Blk W g3 46 #[.int .i64 x0,.int .i64 y0])=>
   show C9 106 #[.iface ct cv,.slice Ak kl ck,.slice (some ⟨g1,0,none⟩) 1 1,.slice (some ⟨g2,0,none⟩) 1 1,.slice (some ⟨g3,0,none⟩) 1 1] W (Ret W (.bool bv)) from by
    have:=HCv.out it.ob W Ao g1 g2 g3 co x0 y0 x1 y1 hbd (hb.trans (hW.mono hb.size)) h1 ((hpts.tr hW (zhy _)).more hW.size) h2 h3 hpl;rw [hbv2] at this
    exact this)
  have HBV:=hdQ hbv;have hws:=hb.size;clear hx hget L hck hBi eov hpts hpl hbd hbv hbv2 hb;generalize it.ob.kind=ok at*;generalize it.ob.pts.length=ol at*
  go_wp2_with (go_at_call 105;(refine(HBo.out _ bel).monoR ?_);rintro w5 hb5 hc5 hf5 hz5;(try simp at hz5);have hBO:Blk w5 wr.heap.size 40 #[.int .i64 ok,.slice Ao ol co]:=blkA;have HBO:=hdQ hBO;have hB5:Below wr.heap.size wr w5:=bel;have HB5:=hdQ hB5;clear hBO hB5 hb5)
  obtain⟨gb,hgb⟩:∃g,w5.heap.size=g:=⟨_,rfl⟩
  rw [hgb]
  refine qck (fun w6=>Blk w6 gb 48 #[.int .i64 x0,.int .i64 y0,.int .i64 x1,.int .i64 y1]/\Blk w6 wr.heap.size 40 #[.int .i64 ok,.slice Ao ol co]/\Below wr.heap.size wr w6) ⟨?_,?_,?_⟩ ?_
  · subst hgb
    exact blkA
  · exact(HBO.out.alloc _)
  · exact HB5.out.alloc HB5.out.size _
  clear hc5 hf5 hz5 HBO HB5 hgb;rintro w6 ⟨hBx,hBo,hb6⟩;obtain⟨hc6,hf6,hz6⟩:=bc3 hb6;have u06:=(hc6 tb 0 ult).trans u0;have ult6:tb<w6.heap.size:=oQ
  obtain⟨x0c,x1c,x2c,x3c⟩:=ce4 hBx;have xlt:=hBx.lt;obtain⟨o0c,o1c⟩:=ce2 hBo;have olt:=hBo.lt;have HCv6:=hdQ (fun(W:World) (g1 g2 g3:Nat) (hW:Below w6.heap.size w6 W)=>HCv2.out W g1 g2 g3 (hb6.trans (hW.mono hb6.size)))
  have HB6:=hdQ hb6;clear hc6 hf6 hBx hBo hb6 u0 u1 u2 u3 q0 q1 s0 hlk HBo HCv2 ult hbl qlt;refine qf2 (.one 0 (.one 1 (.one 2 (.one 3 (.one 4 (.one 5 (.one 7 (.one 8 (.one 10 (.one 11 (.three 6 9 12 (.two 9 12 (.one 12 (.one 13 (.one 14 .done))) (.one 9 (.one 13 (.one 14 .done)))) (.two 6 12 (.one 12 (.one 13 (.one 14 .done))) (.one 6 (.one 13 (.one 14 .done)))) (.two 6 9 (.one 9 (.one 13 (.one 14 .done))) (.one 6 (.one 13 (.one 14 .done))))))))))))))) (fun a8 a9 w9=>∃(s38 s41 s44:Value),a9=puts a8 [(32,.pointer (some ⟨tb,0,none⟩)),(33,.pointer (some ⟨tb,0,none⟩)),(34,.pointer (some ⟨tb,0,none⟩)),(35,.iface ct cv),(36,.slice Ak kl ck),(37,.agg #[.int .i64 ok,.slice Ao ol co]),(38,s38),(39,.agg #[.int .i64 x0,.int .i64 y0,.int .i64 x1,.int .i64 y1]),(40,.agg #[.int .i64 1,.int .i64 x0,.int .i64 y0,.int .i64 x1,.int .i64 y1,.slice none 0 0]),(41,s41),(42,.pointer (some ⟨gb,0,none⟩)),(43,.agg #[.int .i64 x0,.int .i64 y0]),(44,s44),(45,.bool bv),(46,.bool (!bv))]/\Below w6.heap.size w6 w9) kr kr pq ?_ ?_
  · intro LL hLL QQ hQQ
    have oo0:=qcd hLL 0 kr
    have oo1:=qcd hLL 1 kr
    have oo2:=qcd hLL 2 kr
    have oo3:=qcd hLL 3 kr
    have oo4:=qcd hLL 4 kr
    have oo5:=qcd hLL 5 kr
    have oo6:=qcd hLL 6 kr
    have oo7:=qcd hLL 7 kr
    have oo8:=qcd hLL 8 kr
    have oo9:=qcd hLL 9 kr
    have oo10:=qcd hLL 10 kr
    have oo11:=qcd hLL 11 kr
    have oo12:=qcd hLL 12 kr
    have oo13:=qcd hLL 13 kr
    have oo14:=qcd hLL 14 kr
    simp only [ldz,lds,bare] at oo0 oo1 oo2 oo3 oo4 oo5 oo6 oo7 oo8 oo9 oo10 oo11 oo12 oo13 oo14;clear hLL
    repeat' ((try simp only [Act.put,lsi,lsz,lss]);first|(refine qlq ?_ ?_ ?_)|(refine qrn ?_ ?_)|(refine qlr (v:= ?_) (by assumption) rfl ?_ ?_;rotate_left;focus(intro wq hq;obtain⟨hcq,hfq⟩:=qa1 hq;go_simp;try with_reducible rfl))|(refine qro ?_)|(refine qnv (by assumption) rfl (fun K hK=> ?_);go_simp;((first|(go_at_call 106;(refine(HCv6.out _ _ _ _ bel blkA blkA blkA).mono ?_);rintro e w7 ⟨rfl,hb7⟩;have hb17:Below w6.heap.size w6 w7:=bel;clear hb7)  | skip)<;>(refine hK.out _ _ bel ?_;clear hK K))))
    all_goals(refine qnw hQQ ?_)
    all_goals(refine⟨?_,?_,?_,?_,?_⟩;rotate_left 3;(focus(simp only [puts,List.foldl_cons,List.foldl_nil,Act.put,lsi,lsz,lss];rfl));(focus exact bel))
  rintro a' w7 ⟨s38,s41,s44,rfl,hb7⟩
  simp only [puts,List.foldl_cons,List.foldl_nil,Act.put,lsi,lsz,lss]
  have HB7:=hdQ (HB.out.trans ((HB6.out.trans (hb7.mono HB6.out.size)).mono hws));clear hb7 x0c x1c x2c x3c o0c o1c u06 HCv6 HB6
  cases bv with
  | false=>
    have HT:Hid (ids.all (covI C t kb)=false):=qus HX.out HBV.out;go_wp2_with fail;go_ret;exact⟨qae HT.out.symm,HB7.out⟩
  | true=>
    have HT:Hid ((ids.take (i+1)).all (covI C t kb)=true):=by
     unfold Hid
     rw [qxy HX.out,HAll.out,HBV.out]
     rfl
    go_wp2_with fail
    go_roundw
    case rel=>exact ⟨i+1,by omega,by go_num,HT.out,HB7.out⟩
    case measure=>simp [Go.RowKit.intOf];omega
end
end Go.Proofs.YtfnhnjbkkggbeaaGreat
namespace VSn
section
open Go Go.RowKit Pg
variable {P:Program} {Q:Exit->Act->World->Prop} {S:World->Prop}
theorem qgc {r:List (Oper×Option (Option Tmp×Bool))} {o:Oper} {d:Nat} {want:Bool} {a:Act} {w:World} (hv:a.tmps[d]? =some undef) (hS:S w) (h:lexL P Q S r (a.put o.dst undef) w):
 lexL P Q S ((o,some (some d,want))::r) a w:=qop (by simp [qeg,hv,undef]) hS h
end
end VSn
namespace Go.Proofs.YtfnhnjbkkggbeaaGreat
open Go Go.RowKit Pg VSn
theorem qkr {α β:Type} (f:α->List β) (m:Nat):∀l:List α,(∀x∈l,m<=(f x).length)->l.length*m<=(l.flatMap f).length
 | [],_=>by simp
 | a::r,h=>by
   have h1:=qkr f m r fun x hx=>h x (List.mem_cons_of_mem _ hx)
   have h2:=h a (List.mem_cons_self ..)
   rw [zvy,zny,zax,Nat.add_mul]
   omega
theorem q0q {C:Cl} {cl:Value} {w:World} {own imm:Nat->Prop} {tb mb:Nat} {t:Tr} (h:GAt C cl w own imm tb mb t):∀(l n:Nat),t.lv n=some l->(n≠t.root\/0<l)->2 ^ (l+1)<=(below t l n).length
 | 0,n,hn,hz=>by
   have h1:=(h.fill n 0 hn (fun q=>q)).2.1 (by rcases hz with q|q;exact q;omega)
   have h4:=h.fan4;have:(below t 0 n).length=(t.es n).length:=by unfold below;rw [zyy]
   rw [this]
   omega
 | l+1,n,hn,hz=>by
   have hf:=h.fill n (l+1) hn (fun q=>q)
   have h4:=h.fan4
   have h2:2<=(t.es n).length:=by
    by_cases e:n=t.root
    · exact hf.2.2 e oQ
    · have:=hf.2.1 e
      omega
   have h3:(t.es n).length*2 ^ (l+1)<=(below t (l+1) n).length:=by
    show _<=((t.es n).flatMap fun e=>below t l e.kid).length
    refine qkr _ _ _ fun e he=> ?_
    obtain⟨h5,h6⟩:=h.shape.kid n l e hn he
    exact q0q h l e.kid h5 (.inl fun q=>by
     have:=h.shape.root.2;rw [<-q,h6] at this
     cases this)
   have:2*2 ^ (l+1)<=(t.es n).length*2 ^ (l+1):=zuy _ h2
   rw [Nat.pow_succ] at*
   omega
theorem q3a {C:Cl} {cl:Value} {w:World} {own imm:Nat->Prop} {tb mb:Nat} {t:Tr} (h:GAt C cl w own imm tb mb t) {l n:Nat} (hn:t.lv n=some l) (hc:t.items.length<=100000):l<=16:=by
 by_cases h0:l=0
 · omega
 have h1:=q0q h l n hn (.inr oQ)
 have h2:=h.shape.below_len hn;refine Nat.le_of_not_lt fun hl=> ?_
 have h3:2 ^ 17<=2 ^ (l+1):=Nat.pow_le_pow_right oQ oQ
 have h4:(2:Nat) ^ 17=131072:=by decide
 omega
section
variable {own imm:Nat->Prop} {tb mb:Nat} {t:Tr}
def sndD (C:Cl) (t:Tr) (l n:Nat):Int:=if sndT C t l n=true then(l:Int)+1 else 0
theorem quq {C:Cl} {cl:Value} {w:World} (h:GAt C cl w own imm tb mb t) {l n:Nat} (hn:t.lv n=some l):∀id∈below t l n,∃it,getK id t.items=some it:=fun id hid=>by
 obtain⟨b',hb',_,e',he',rfl⟩:=(h.shape.mem_below hn).1 hid;obtain⟨_,it,hit,_⟩:=h.shape.ent _ _ hb' he';exact⟨it,hit⟩
def sndE (C:Cl) (t:Tr) (l:Nat) (e:En):Bool:=sndT C t l e.kid&&(below t l e.kid).all (covI C t e.kb)
theorem qxz {p:En->Bool} {l:List En} {k:Nat} {x:En} (h:l[k]? =some x):(l.take (k+1)).all p=((l.take k).all p&&p x):=by
 rw [zwy,h,Option.toList_some,List.all_append]
 simp
theorem qmk {p:En->Bool} {l:List En} {k:Nat} {x:En} (h:l[k]? =some x) (hp:p x=false):l.all p=false:=by
 rw [List.all_eq_false]
 exact⟨x,zjy h,by rw [hp];simp⟩
theorem qs7 {C:Cl} {ct:TypeId} {cv:Value} {fM fC fD fU fS:Nat} (hC:ClAt ct cv C fM fC fD fU fS) (hcount:t.items.length<=100000):∀(l n:Nat) (w:World),t.lv n=some l->GAt C (.iface ct cv) w own imm tb mb t->
 C9 41 #[gP tb,gP n] w (Ret w (.tuple #[.int .i64 (sndD C t l n),.bool (sndT C t l n)])):=by
 intro l
 induction l using Nat.strongRecOn with
 | _ l ih0=>
 intro n w hn h;have hl16:=q3a h hn hcount;obtain⟨c0,c1,c2,c3,clt⟩:=h.lay.c0;obtain⟨n0,n1,n2,nlt⟩:=h.lay.n0 hn;obtain⟨Ar,cr,hs,_,_,_⟩:=qas (h.lay.row n l hn (fun q=>q))
 rw [hs] at n2;obtain⟨k,hk⟩:∃k,(t.es n).length=k:=⟨_,rfl⟩;have HLN:=hdQ hk;rw [hk] at n2;have hfill:=h.fill n l hn (fun q=>q)
 rw [hk] at hfill;have hfan16:=h.fan16;have hk16:k<=16:=oQ
 have HLe:=hdQ (fun W (hW:Below w.heap.size w W)=>qkl (h.lay.tr hW) oQ)
 have hup:t.up n=none\/∃u,t.up n=some u/\t.fan/2<=k:=by
  cases hu:t.up n with
  | none=>exact .inl rfl
  | some u=>exact .inr ⟨u,rfl,hfill.2.1 fun e=>by
     have:=h.shape.root.2;rw [<-e,hu] at this
     cases this⟩
 have d1:decide ((t.fan:Int)<(k:Int))=false:=by rw [decide_eq_false_iff_not];omega
 have d1n:decide (t.fan<k)=false:=by rw [decide_eq_false_iff_not];omega
 have HK2:=hdQ (show n=t.root->0<l->2<=k from hfill.2.2)
 have HKn:=hdQ (show n≠t.root->t.fan/2<=k from hfill.2.1)
 have HF4:=hdQ h.fan4;have HS:=hdQ hs;have HN:=hdQ hn;have HH:=hdQ h;have HC:=hdQ hC;have HIH:Hid (∀l' b,l=l' +1->t.lv b=some l' ->∀W,Below w.heap.size w W->C9 41 #[gP tb,gP b] W (Ret W (.tuple #[.int .i64 (sndD C t l' b),.bool (sndT C t l' b)]))):=fun l' b e hb W hW=>ih0 l' oQ b W hb (h.tr hW)
 clear hn h hC ih0 hk hs hfill;obtain⟨fan,hfan⟩:∃x,t.fan=x:=⟨_,rfl⟩;obtain⟨least,hleast⟩:∃x,fan/2=x:=⟨_,rfl⟩;rw [hfan] at c1 d1 d1n HLe hup HF4 HKn;rw [hleast] at HLe hup HKn;have HFan:=hdQ (And.intro hfan hleast);obtain⟨D,hD⟩:∃x:Int,(l:Int)=x:=⟨_,rfl⟩;have hD1:0<=D/\D<=16:=oQ
 have HD:=hdQ hD;obtain⟨D2,hD2⟩:∃x:Int,D+1=x:=⟨_,rfl⟩;have w64:IntKind.i64.wrap D2=D2:=IntWalk.i64_in _ ⟨by omega,by omega⟩
 clear hfan hleast hfan16 hD hD1
 obtain⟨rv,hrv,hrd⟩:∃a,gO (t.up n)=Value.pointer a/\(a=none\/∃u,a=some ⟨u,0,none⟩/\decide ((k:Int)<(least:Int))=false/\decide (k<least)=false):=by
  rcases hup with h|⟨u,h,h2⟩
  · rw [h];exact⟨none,rfl,.inl rfl⟩
  · rw [h];exact⟨_,rfl,.inr ⟨u,rfl,by rw [decide_eq_false_iff_not];omega,by rw [decide_eq_false_iff_not];omega⟩⟩
 rw [hrv] at n0;clear hup hrv
 cases l with
 | zero=>
   rw [show decide (0=0)=true from rfl] at n1
   rw [show sndD C t 0 n=1 from by simp [sndD,sndT],show sndT C t 0 n=true from rfl]
   clear HIH HD hD2 w64
   simp only [gP] at*
   rcases hrd with rfl|⟨u,rfl,d2,d2n⟩
   all_goals(
    go_enter Tryz.func41,Tryz.ntmps41
    go_wp2_with fail;refine qac kr kr pq ?_
    simp only [zdy,zey,ldz,lds,bare,qak,lcz,lcs,zay]
    repeat' ((try simp only [Act.put,lsi,lsz,lss]);first|(refine qbj ?_ ?_;focus(simp only [lAq,zgy,zfy];done))|(refine qa3 ?_ ?_ ?_;(focus(simp only [lAq,zgy,zfy];done));(focus(exact bel)))|(refine qgc ?_ ?_ ?_;(focus(simp only [lAq,zgy,zfy];done));(focus(exact bel)))|(refine qaw (X:= ?_) ?_ ?_ (fun hg=> ?_) (fun hg=> ?_);rotate_left;(focus(simp only [lAq];with_reducible rfl));(focus(exact bel));all_goals(try simp only [zgy,zfy] at hg))|(refine lqx ?_)|(refine qab qaa rfl (fun K hK=> ?_);go_simp;((first |  (go_at_call 45;(refine(HLe.out _ bel).mono ?_);rintro e we ⟨rfl,hbe⟩;obtain⟨_,n1e,n2e,nlte⟩:=(HH.out.tr (show Below w.heap.size w we from bel)).lay.n0 HN.out;(rw [HS.out,HLN.out] at n2e);(rw [show decide (0=0)=true from rfl] at n1e);have hwe:Below w.heap.size w we:=bel;clear hbe)|skip)<;>(refine hK.out _ _ bel ?_;clear hK K))))
    (all_goals try simp only [Act.put,lsi,lsz,lss]);all_goals(refine qad ?_)
    go_wp2_with fail
    go_ret2
    exact⟨rfl,bel⟩)
 | succ l=>
   rw [show decide (l+1=0)=false by simp] at n1
   have hSd:Hid (∀b,sndT C t (l+1) n=b->sndD C t (l+1) n=if b=true then D2 else 0):=fun b hb=>by
    unfold sndD
    rw [hb,<-hD2,<-HD.out]
   have HD2:=hdQ hD2
   simp only [gP] at*
   rcases hrd with rfl|⟨u,rfl,d2,d2n⟩
   all_goals(
    go_enter Tryz.func41,Tryz.ntmps41
    go_wp2_with fail;refine qac kr kr pq ?_
    simp only [zdy,zey,ldz,lds,bare,qak,lcz,lcs,zay]
    repeat' ((try simp only [Act.put,lsi,lsz,lss]);first|(refine qbj ?_ ?_;focus(simp only [lAq,zgy,zfy];done))|(refine qa3 ?_ ?_ ?_;(focus(simp only [lAq,zgy,zfy];done));(focus(exact bel)))|(refine qgc ?_ ?_ ?_;(focus(simp only [lAq,zgy,zfy];done));(focus(exact bel)))|(refine qaw (X:= ?_) ?_ ?_ (fun hg=> ?_) (fun hg=> ?_);rotate_left;(focus(simp only [lAq];with_reducible rfl));(focus(exact bel));all_goals(try simp only [zgy,zfy] at hg))|(refine lqx ?_)|(refine qab qaa rfl (fun K hK=> ?_);go_simp;((first |  (go_at_call 45;(refine(HLe.out _ bel).mono ?_);rintro e we ⟨rfl,hbe⟩;obtain⟨_,n1e,n2e,nlte⟩:=(HH.out.tr (show Below w.heap.size w we from bel)).lay.n0 HN.out;(rw [HS.out,HLN.out] at n2e);(rw [show decide (l+1=0)=false by simp] at n1e);have hwe:Below w.heap.size w we:=bel;clear hbe)|skip)<;>(refine hK.out _ _ bel ?_;clear hK K))))
    (all_goals try simp only [Act.put,lsi,lsz,lss]);all_goals(refine qad ?_)
    go_wp2_with fail;refine qck (fun W=>Below w.heap.size w W) bel ?_
    rintro w2 hb2;have HB2:=hdQ hb2;clear hb2
    go_loopw [46,4] (fun vi vd wr=>∃(i:Nat) (dv:Int),vi=.int .i64 i/\vd=.int .i64 dv/\i<=k/\(i=0/\dv=0\/0<i/\dv=D)/\((t.es n).take i).all (sndE C t l)=true/\Below w.heap.size w wr) (fun vi _ _=>k-(Go.RowKit.intOf vi).toNat)
    case atStart=>exact ⟨0,0,rfl,rfl,zly _,.inl ⟨rfl,rfl⟩,by simp,HB2.out⟩
    case round=>
     obtain⟨i,dv,rfl,rfl,hik,hdv,hall,hb⟩:=hrel;have HAll:=hdQ hall;have HB:=hdQ hb;have hws:=hb.size;clear hall
     by_cases hlt:i<k
     case neg=>
      obtain rfl:k=i:=oQ
      have hk2:0<k:=by
       by_cases e:n=t.root
       · have:=HK2.out e oQ
         omega
       · have:=HKn.out e
         have:=HF4.out;have:=HFan.out.2
         omega
      obtain rfl:dv=D:=by
       rcases hdv with ⟨h1,_⟩|⟨_,h2⟩
       · omega
       · exact h2
      have HT:Hid (sndT C t (l+1) n=true):=by
       have:=HAll.out
       rw [zmy (by rw [HLN.out];exact zhy _)] at this
       exact this
      clear hb hlt hdv;go_wp2_with fail
      go_ret2
      exact⟨by rw [hSd.out _ HT.out,HT.out,if_pos rfl];rfl,HB.out⟩
     have hn0:(i:Int)<(k:Int):=oQ
     obtain⟨jn,hjn⟩:=Option.isSome_iff_exists.1 (show (Tryz.prog.info? 79).isSome=true by kernel_rfl)
     have hpe:∀W:World,(binOp .neq 76 (.pointer (some ⟨n,0,none⟩)) (.pointer (some ⟨n,0,none⟩))).run Tryz.prog W=.ok (.bool false) W:=fun W=>Go.Lib.run_neq_ptr_same W ⟨n,0,none⟩ Tryz.underlying76 hjn
     have hG:=HH.out.tr hb;have L:=hG.lay;obtain⟨u0,u1,u2,u3,ult⟩:=L.c0;obtain⟨m0,m1,m2,mlt⟩:=L.n0 HN.out;rw [HS.out,HLN.out] at m2;obtain⟨e,hx⟩:∃e,(t.es n)[i]? =some e:=⟨(t.es n)[i]'(by rw [HLN.out];exact hlt),zby _⟩
     have HX:=hdQ hx;have hmem:=zjy hx;obtain⟨g,c',hv,hgl,r0,r1,r2⟩:=qcf (L.row n (l+1) HN.out (fun q=>q)) hx
     rw [HS.out] at hv;injection hv with hv1 hv2 hv3
     subst hv1 hv3;have hKx:=L.ekey n (l+1) e HN.out hmem;have hk256:=hKx.1;have hkl:=hKx.2.1;obtain⟨Ak,ck,ekv,hkc,hAk,hyk⟩:=hKx.bys;rw [ekv] at r0
     rw [show (if decide (l+1=0)=true then Value.pointer none else gP e.kid)=.pointer (some ⟨e.kid,0,none⟩) from by simp [gP]] at r2
     obtain⟨hkid,hkup⟩:=HH.out.shape.kid n l e HN.out hmem;obtain⟨x0,x1,x2,xlt⟩:=L.n0 hkid;rw [hkup,show gO (some n)=.pointer (some ⟨n,0,none⟩) from rfl] at x0
     obtain⟨b1,hb1⟩:∃b,sndT C t l e.kid=b:=⟨_,rfl⟩
     have HIx:=hdQ (fun W (hW:Below wr.heap.size wr W)=>show C9 41 #[.pointer (some ⟨tb,0,none⟩),.pointer (some ⟨e.kid,0,none⟩)] W (Ret W (.tuple #[.int .i64 (if b1=true then D else 0),.bool b1])) from by
      have:=HIH.out l e.kid rfl hkid W (hb.trans (hW.mono hws));unfold sndD at this;rw [hb1] at this
      rw [show D=(l:Int)+1 from by rw [<-HD.out];rfl]
      exact this)
     have HB1:=hdQ hb1;obtain⟨ids,hids⟩:∃x,below t l e.kid=x:=⟨_,rfl⟩;obtain⟨nb,hnb⟩:∃x,ids.length=x:=⟨_,rfl⟩
     have hnb2:nb<=100000:=by
      have:=HH.out.shape.below_len hkid;rw [hids] at this
      omega
     have hitm:=quq hG hkid;rw [hids] at hitm
     have HBe:=hdQ (fun W (hW:Below wr.heap.size wr W)=>show C9 42 #[.pointer (some ⟨e.kid,0,none⟩)] W fun e' w' =>∃A' c',e' =.returned (.slice A' nb c')/\(∃Z,qdv w' Z A' (idcs ids))/\Below W.heap.size W w' from by
      refine(qk8 HH.out.shape (fun b l hb=>by have:=(HH.out.fill b l hb (fun q=>q)).1;have:=HH.out.fan16;omega) hcount l e.kid W hkid (hG.tr hW).lay).mono ?_
      rintro e' w' ⟨v',rfl,ho,hb'⟩;obtain⟨A',c',rfl,_,_,_⟩:=qas ho
      rw [hids] at ho ⊢
      rw [hnb] at ho ⊢
      exact⟨A',c',rfl,⟨_,qqc ho rfl⟩,hb'⟩)
     obtain⟨cr2,hcr2⟩:∃b,ids.all (covI C t e.kb)=b:=⟨_,rfl⟩
     have HCv:=hdQ (fun W (hW:Below wr.heap.size wr W) (W0:World) A' c' (hI:∃Z,qdv W0 Z A' (idcs ids)) (hW0:Below W0.heap.size W0 W)=>show C9 69 #[.pointer (some ⟨tb,0,none⟩),.slice Ak e.kb.length ck,.slice A' nb c'] W (Ret W (.bool cr2)) from by
      obtain⟨Z,hI⟩:=hI;have:=qq3 HC.out W (hG.tr hW) ids nb c' A' Z (hI.kept (qag hW0) sI) hnb hnb2 hitm e.kb e.kb.length ck Ak rfl hk256 hkl hkc hAk ((hyk.tr hW (zhy _)).more hW.size)
      rw [hcr2] at this
      exact this)
     have HSE:Hid (sndE C t l e=(b1&&cr2)):=by
      unfold Hid sndE
      rw [hb1,hids,hcr2]
     obtain⟨kl,hkl2⟩:∃x,e.kb.length=x:=⟨_,rfl⟩;rw [hkl2] at r0 HCv;obtain⟨kid,hki⟩:∃x,e.kid=x:=⟨_,rfl⟩;rw [hki] at r2 x0 x1 x2 xlt HIx HBe;clear hx hmem L hG hv2 ekv hkc hAk hyk hKx hk256 hkl hkid hkup hb1 hids hnb hitm hcr2 hkl2 hki hb
     cases b1 with
     | false=>
       have HT:Hid (sndT C t (l+1) n=false):=(show (t.es n).all (sndE C t l)=false from qmk HX.out (by rw [HSE.out];rfl))
       go_wp2_with (go_at_call 41;(refine(HIx.out _ bel).monoR ?_);rintro wx hbx hcx hfx hzx;(try simp at hzx))
       refine qac kr kr pq ?_
       simp only [zdy,zey,ldz,lds,bare,qak,lcz,lcs,zay]
       repeat' ((try simp only [Act.put,lsi,lsz,lss]);first|(refine qbj ?_ ?_;focus(simp only [lAq,zgy,zfy];done))|(refine qa3 ?_ ?_ ?_;(focus(simp only [lAq,zgy,zfy];done));(focus(exact bel)))|(refine qgc ?_ ?_ ?_;(focus(simp only [lAq,zgy,zfy];done));(focus(exact bel)))|(refine qaw (X:= ?_) ?_ ?_ (fun hg=> ?_) (fun hg=> ?_);rotate_left;(focus(simp only [lAq];with_reducible rfl));(focus(exact bel));all_goals(try simp only [zgy,zfy] at hg))|(refine lqx ?_)|(refine qab qaa rfl (fun K hK=> ?_);go_simp;((first |  fail|skip)<;>(refine hK.out _ _ bel ?_;clear hK K))))
       (all_goals try simp only [Act.put,lsi,lsz,lss]);all_goals(refine qad ?_)
       go_wp2_with fail
       go_ret2
       exact⟨by rw [hSd.out _ HT.out,HT.out];rfl,HB.out.trans ((show Below wr.heap.size wr _ from bel).mono hws)⟩
     | true=>
       rcases hdv with ⟨rfl,rfl⟩|⟨hi,rfl⟩
       all_goals(try(have hi0:(0:Int)<(i:Int):=oQ))
       all_goals(
        go_wp2_with (go_at_call 41;(refine(HIx.out _ bel).monoR ?_);rintro wx hbx hcx hfx hzx;(try simp at hzx);have hEx:Blk wx wr.heap.size 96 #[.slice Ak kl ck,.int .i64 e.id,.pointer (some ⟨kid,0,none⟩)]:=blkA;have hwx:Below wr.heap.size wr wx:=bel;have E0:=hEx.cell 0;have E1:=hEx.cell 1;have E2:=hEx.cell 2;have El:=hEx.lt;(simp only [lAq] at E0 E1 E2);obtain⟨hcw,_⟩:=qa1 hwx;have K0:=(hcw kid 0 xlt).trans x0;have Kl:kid<wx.heap.size:=zky xlt hwx.size;clear hcw;clear hbx hcx hfx hEx)
        refine qac kr kr pq ?_
        simp only [zdy,zey,ldz,lds,bare,qak,lcz,lcs,zay]
        repeat' ((try simp only [Act.put,lsi,lsz,lss]);first|(refine qbj ?_ ?_;focus(simp only [lAq,zgy,zfy];done))|(refine qa3 ?_ ?_ ?_;(focus(simp only [lAq,zgy,zfy];done));(focus(exact bel)))|(refine qgc ?_ ?_ ?_;(focus(simp only [lAq,zgy,zfy];done));(focus(exact bel)))|(refine qaw (X:= ?_) ?_ ?_ (fun hg=> ?_) (fun hg=> ?_);rotate_left;(focus(simp only [lAq];with_reducible rfl));(focus(exact bel));all_goals(try simp only [zgy,zfy] at hg))|(refine lqx ?_)|(refine qab qaa rfl (fun K hK=> ?_);go_simp;((first |  (go_at_call 42;(refine(HBe.out _ bel).mono ?_);rintro e' w7 ⟨A7,c7,rfl,ho7,hb7⟩;have HO7:=hdQ ho7;clear ho7;obtain⟨hc7,hf7,hz7⟩:=bc3 hb7;(try simp at hz7))|(go_at_call 69;(refine(HCv.out _ bel _ _ _ HO7.out bel).monoR ?_);rintro wv hbv hcv hfv hzv;(try simp at hzv))|skip)<;>(refine hK.out _ _ bel ?_;clear hK K))))
        (all_goals try simp only [Act.put,lsi,lsz,lss]);all_goals(refine qad ?_)
        cases cr2 with
        | false=>
          have HT:Hid (sndT C t (l+1) n=false):=(show (t.es n).all (sndE C t l)=false from qmk HX.out (by rw [HSE.out];rfl))
          go_wp2_with fail
          go_ret2
          exact⟨by rw [hSd.out _ HT.out,HT.out];rfl,HB.out.trans ((show Below wr.heap.size wr _ from bel).mono hws)⟩
        | true=>
          have HT:=hdQ (show ((t.es n).take (_+1)).all (sndE C t l)=true from by rw [qxz HX.out,HAll.out,HSE.out];rfl)
          have HB9:=hdQ (HB.out.trans ((show Below wr.heap.size wr wv from bel).mono hws))
          go_wp2_with fail
          go_roundw
          case rel=>exact ⟨_,_,by go_num,rfl,by omega,.inr ⟨by omega,rfl⟩,HT.out,HB9.out⟩
          case measure=>simp [Go.RowKit.intOf];omega))
end
section
variable {own imm:Nat->Prop} {tb mb:Nat} {t:Tr}
theorem quu {C:Cl} {ct:TypeId} {cv:Value} {fM fC fD fU fS:Nat} (hC:ClAt ct cv C fM fC fD fU fS) (w:World) (h:GAt C (.iface ct cv) w own imm tb mb t) (hcount:t.items.length<=100000) {lr:Nat} (hlr:t.lv t.root=some lr):
 C9 19 #[gP tb] w (Ret w (.bool (sndT C t lr t.root))):=by
 obtain⟨c0,c1,c2,c3,clt⟩:=h.lay.c0;have HG:=hdQ (fun W (hW:Below w.heap.size w W)=>qc9 (h.lay.tr hW))
 obtain⟨b,hb⟩:∃x,sndT C t lr t.root=x:=⟨_,rfl⟩;obtain⟨D,hD⟩:∃x,sndD C t lr t.root=x:=⟨_,rfl⟩;have HS:=hdQ (fun W (hW:Below w.heap.size w W)=>qs7 hC hcount lr t.root W hlr (h.tr hW))
 rw [hb,hD] at HS
 rw [hb]
 obtain⟨m,hm⟩:∃x,t.items.length=x:=⟨_,rfl⟩
 have HBe:=hdQ (fun W (hW:Below w.heap.size w W)=>show C9 42 #[gP t.root] W fun e' w' =>∃A' c',e' =.returned (.slice A' m c')/\Below W.heap.size W w' from by
  refine(qk8 h.shape (fun b l hb=>by have:=(h.fill b l hb (fun q=>q)).1;have:=h.fan16;omega) hcount lr t.root W hlr (h.tr hW).lay).mono ?_
  rintro e' w' ⟨v',rfl,ho,hb'⟩;obtain⟨A',c',rfl,_,_,_⟩:=qas ho
  rw [q0e h.shape hlr,hm]
  exact⟨A',c',rfl,hb'⟩)
 have HM:=hdQ h.lay.mp;have HML:=hdQ (show (t.items.map fun p=>(p.1,gP p.2.blk)).length=m from by rw [zyy];exact hm)
 have HLn:Hid (∀W,Below w.heap.size w W->∀ty,(Builtin.len_ #[80] ty #[.map (some mb)]).run Tryz.prog W=.ok (.int .i64 (m:Nat)) W):=fun W hW ty=>by
  have:=World.ownsMap.len (show W.ownsMap Tryz.prog 3 RV mb _ (toD (t.items.map fun p=>(p.1,gP p.2.blk))) from qba.tr HM.out hW) Tryz.underlying80 ty
  rw [qjb,HML.out] at this;exact this
 clear h hb hD hm hlr
 simp only [gP] at*
 cases b
 all_goals(
  go_enter Tryz.func19,Tryz.ntmps19
  go_wp2_with (first
   | (go_at_call 25;(refine(HG.out _ bel).monoR ?_);rintro wg hbg hcg hfg hzg;(try simp at hzg))
   | (go_at_call 41;(refine(HS.out _ bel).monoR ?_);rintro ws hbs hcs hfs hzs;(try simp at hzs);have hws:Below w.heap.size w ws:=bel;have hlnq:∀W,Below ws.heap.size ws W->∀ty,(Builtin.len_ #[80] ty #[.map (some mb)]).run Tryz.prog W=.ok (.int .i64 (m:Nat)) W:=fun W hW ty=>HLn.out W (hws.trans (hW.mono hws.size)) ty;obtain⟨hcw,_⟩:=qa1 hws;have s2:=(hcw tb 2 clt).trans c2;have s3:=(hcw tb 3 clt).trans c3;have sl:tb<ws.heap.size:=zky clt hws.size;clear hcw hcs hfs hbs hcg hfg hbg c2 c3 hzg hzs c0 c1))
  refine qah [0,1,2,3,4,5,8,9,10,11,6,7,12,13,14,15] kr kr pq ?_
  simp only [zdy,zey,ldz,lds,bare,qak,lcz,lcs,zay]
  repeat' ((try simp only [Act.put,lsi,lsz,lss]);first|(refine qbj ?_ ?_;focus(simp only [lAq,zgy,zfy];done))|(refine qa3 ?_ ?_ ?_;(focus(simp only [lAq,zgy,zfy];done));(focus(exact bel)))|(refine qgc ?_ ?_ ?_;(focus(simp only [lAq,zgy,zfy];done));(focus(exact bel)))|(refine qaw (X:= ?_) ?_ ?_ (fun hg=> ?_) (fun hg=> ?_);rotate_left;(focus(simp only [lAq];with_reducible rfl));(focus(exact bel));all_goals(try simp only [zgy,zfy] at hg))|(refine lqx ?_)|(refine qab qaa rfl (fun K hK=> ?_);(refine wp_lenM _ _ 80 3 101 mb _ rfl rfl (qba.tr HM.out bel) Tryz.underlying80 ?_;rw [HML.out]);refine hK.out _ _ bel ?_;clear hK K)|(refine qab qaa rfl (fun K hK=> ?_);go_simp;((first |  (go_at_call 42;(refine(HBe.out _ bel).mono ?_);rintro e' w7 ⟨A7,c7,rfl,hb7⟩;have hln7:=HLn.out w7 bel;obtain⟨hc7,hf7,hz7⟩:=bc3 hb7;(try simp at hz7))  | skip)<;>(refine hK.out _ _ bel ?_;clear hK K))))
  (all_goals try simp only [Act.put,lsi,lsz,lss]);all_goals(refine qad ?_)
  go_wp2_with fail;go_ret
  exact⟨rfl,bel⟩)
end
end Go.Proofs.YtfnhnjbkkggbeaaGreat

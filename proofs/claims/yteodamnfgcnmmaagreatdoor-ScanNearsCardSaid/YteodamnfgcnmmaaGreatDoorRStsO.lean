/-pergolalaw18-/
import Derived.Test.YteodamnfgcnmmaaGreatDoorRSidE
import Derived.Test.YteodamnfgcnmmaaGreatDoorRDelE
import Derived.Test.YteodamnfgcnmmaaGreatDoorRItmO
set_option linter.unusedVariables false
set_option linter.unusedSimpArgs false
set_option maxHeartbeats 8000000
set_option maxRecDepth 100000
namespace Go.Proofs.YteodamnfgcnmmaaGreatDoor
open Go Go.RowKit Pg
def qtm (w:World) (B:Nat) (A:Option Addr) (n:Nat) (l:List (Int×Int)):Prop:=
 l.length=n/\(0<n->∃b off,A=some ⟨b,off,none⟩/\b<B/\∀(k:Nat) (p:Int×Int),l[k]? =some p->w.cell? ⟨b,off+k*2,none⟩=some (.int .i64 p.1)/\w.cell? ⟨b,off+k*2+1,none⟩=some (.int .i64 p.2))
theorem qtm.below {w w' :World} {B n:Nat} {A:Option Addr} {l:List (Int×Int)} (h:qtm w B A n l) (hb:Below B w w'):qtm w' B A n l:=by
 refine⟨h.1,fun hn=> ?_⟩
 obtain⟨b,off,e,hlt,hc⟩:=h.2 hn;exact⟨b,off,e,hlt,fun k p hp=>⟨(hb.cell (p:=⟨b,off+k*2,none⟩) hlt).trans (hc k p hp).1,(hb.cell (p:=⟨b,off+k*2+1,none⟩) hlt).trans (hc k p hp).2⟩⟩
theorem qr3 {w:World} {Z:Nat->Prop} {A:Option Addr} {c k j:Nat} {S:List Nr} (hCs:qb4 w Z A (nrVs S)) (hSc:S.length<=c) (hj:k+j<=S.length):qb4 w Z (if c=k then A else Option.map (fun x=>x.add (k*4)) A) (nrVs ((S.drop k).take j)):=by
 intro hn;rw [qdw,List.length_take,List.length_drop] at hn;have hck:¬ c=k:=oQ
 obtain⟨b,off,rfl,hz,hb,hcell⟩:=hCs (by rw [qdw];omega)
 rw [if_neg hck]
 refine⟨b,off+k*4,by simp only [Option.map_some,qmm],hz,hb,fun i u hu=> ?_⟩
 have hlen:i<j*4:=by
  have:=(zsy.1 hu).1;rw [qdw,List.length_take,List.length_drop] at this
  omega
 have e:(nrVs S)[k*4+i]? =some u:=by
  rw [<-qqh,List.getElem?_take_of_lt hlen,<-qlj,List.getElem?_drop] at hu;exact hu
 have:=hcell _ _ e
 rw [show off+k*4+i=off+(k*4+i) by omega]
 exact this
structure PlM (F:Nat->Prop) (w0 w:World) (Zc Zw own imm:Nat->Prop) (cb tb mb:Nat) (Aw:Option Addr) (S:List Nr) (k:Nat) (o:Bool) (t:Tr):Prop where
 g:GAt (clsC 3 0 false 0) cl3 w own imm tb mb t
 c:CurAt w Zc cb S k o
 n:qb4 w Zw Aw (nrVs S)
 far:∀b,Zc b\/b=cb\/Zw b->¬ own b/\¬ imm b
 ncb:∀b,Zw b->b≠cb
 zl:∀b,Zw b->b<w.heap.size
 lo:∀b,own b\/b=cb->F b\/w0.heap.size<=b
 bl:TurnF F w0 w
section
variable {F:Nat->Prop} {w0 w w' :World} {Zc Zw own imm own' imm' :Nat->Prop} {cb tb mb:Nat} {Aw:Option Addr} {S:List Nr} {k k' :Nat} {o o' :Bool} {t t' :Tr}
theorem PlM.tr (M:PlM F w0 w Zc Zw own imm cb tb mb Aw S k o t) (hb:Below w.heap.size w w'):PlM F w0 w' Zc Zw own imm cb tb mb Aw S k o t:=
 ⟨M.g.tr hb,M.c.tr hb,M.n.kept (qag hb) sI,M.far,M.ncb,fun b q=>zky (M.zl b q) hb.size,M.lo,M.bl.below hb⟩
theorem PlM.cur (M:PlM F w0 w Zc Zw own imm cb tb mb Aw S k o t) (hc:CurAt w' Zc cb S k' o') (ht:TurnF (fun b=>b=cb) w w'):PlM F w0 w' Zc Zw own imm cb tb mb Aw S k' o' t:=
 ⟨M.g.kept (qmz ht) fun g e=>by cases e;exact M.far _ (.inr (.inl rfl)),hc,M.n.turn ht fun b hb=>M.ncb b hb,M.far,M.ncb,fun b q=>zky (M.zl b q) ht.size,M.lo,M.bl.trans ht fun x q=>M.lo x (.inr q)⟩
theorem PlM.tree (M:PlM F w0 w Zc Zw own imm cb tb mb Aw S k o t) (hA:GAt (clsC 3 0 false 0) cl3 w' own' imm' tb mb t') (hg:Grow w w' own imm own' imm'):PlM F w0 w' Zc Zw own' imm' cb tb mb Aw S k o t' :=by
 have hl:∀b,Zc b\/b=cb\/Zw b->b<w.heap.size:=fun b hb=>by
  rcases hb with q|q|q
  · exact M.c.lim b q
  · obtain⟨A,c,h1,_⟩:=M.c.hd
    rw [q]
    exact h1.lt
  · exact M.zl b q
 refine⟨hA,M.c.turn hg.turn fun b hb=>(M.far b (hb.elim .inl fun q=> .inr (.inl q))).1,M.n.turn hg.turn fun b hb=>(M.far b (.inr (.inr hb))).1,fun b hb=>⟨fun q=> ?_,fun q=> ?_⟩,M.ncb,fun b q=>zky (M.zl b q) hg.size,fun b hb=> ?_,M.bl.trans hg.turn fun x q=>M.lo x (.inl q)⟩
 · have:=hl b hb
   rcases hg.oo b q with q|q
   · exact(M.far b hb).1 q
   · omega
 · have:=hl b hb
   rcases hg.ii b q with q|q
   · exact(M.far b hb).2 q
   · omega
 · have hz:=M.bl.size
   rcases hb with q|q
   · rcases hg.oo b q with q|q
     · exact M.lo b (.inl q)
     · exact .inr oQ
   · exact M.lo b (.inr q)
end
theorem q3c {C:Cl} {cl:Value} {w w' :World} {own imm:Nat->Prop} {tb mb:Nat} {t:Tr} {id:Int} {n:Nat} (h:DelG C cl w w' own imm tb mb t id) (hn:t.items.length<=n):∃t' own' imm',GAt C cl w' own' imm' tb mb t' /\Grow w w' own imm own' imm' /\t'.items.length<=n:=by
 obtain⟨t',own',imm',h1,h2,_,h3⟩:=h;exact⟨t',own',imm',h1,h2,by rw [h3];exact zcy (qkf _ _) hn⟩
theorem q20 {C:Cl} {cl:Value} {w w' :World} {own imm:Nat->Prop} {tb mb:Nat} {t:Tr} {id:Int} {o:Ob} {n:Nat} (h:InsG C cl w w' own imm tb mb t id o) (hn:t.items.length<=n):∃t' own' imm',GAt C cl w' own' imm' tb mb t' /\Grow w w' own imm own' imm' /\t'.items.length<=n+1:=by
 obtain⟨t',own',imm',h1,h2,_,h3,h4⟩:=h;refine⟨t',own',imm',h1,h2,?_⟩
 by_cases q:insE C t id o=0
 · obtain⟨x,_,hx⟩:=h4 q
   rw [hx]
   exact zcy (qub _ _ _) oQ
 · rw [h3 q]
   omega
theorem qzo {C:Cl} {cl:Value} {w:World} {own imm:Nat->Prop} {tb mb:Nat} {t:Tr} {id:Int} {o:Ob} {s:ByteArray} {n:Nat} {f:Nat} {args:Array Value} (h:C9 f args w fun e w' =>∃v,e=.returned v/\ErrX w' v (insE C t id o) s id/\InsG C cl w w' own imm tb mb t id o) (hn:t.items.length<=n):
 C9 f args w fun e w' =>∃v,e=.returned v/\∃t' own' imm',GAt C cl w' own' imm' tb mb t' /\Grow w w' own imm own' imm' /\t'.items.length<=n+1:=
 h.mono fun e w' ⟨v,he,_,h2⟩=>⟨v,he,q20 h2 hn⟩
theorem qyl {w:World} {F Zc Zw own imm:Nat->Prop} {cb tb mb B:Nat} {Aw:Option Addr} {S:List Nr} {t:Tr} (m c cw N:Nat) (A:Option Addr) (st:List (Int×Int)) (hM:PlM F w w Zc Zw own imm cb tb mb Aw S 0 true t) (hF:∀k,F k->B<=k) (hB:B<=w.heap.size) (hN:S.length=N) (hNw:N<=cw) (hN8:N<=80) (hit:t.items.length<=80) (hst:qtm w B A m st) (hm:m<=100) (h64:∀p∈st,-9223372036854775808<=p.2/\p.2<=9223372036854775807) (hT:ErrT w) (hTB:0<B):
 C9 11 #[gP tb,gP cb,.slice Aw N cw,.slice A m c] w fun e w' =>e=.returned (.bool true)/\TurnF F w w' :=by
 have HM0:=hdQ hM;have HBl:=hdQ (fun W (h:TurnF F w W)=>qcs h hF hB)
 have HSt:=hdQ (fun W (h:TurnF F w W)=>hst.below (qcs h hF hB))
 have HET:=hdQ (fun W (h:TurnF F w W)=>hT.below (qcs h hF hB) hTB)
 have HSl:=hdQ hN;have H64:=hdQ h64;have HIT:=hdQ hit;have hIs:=fun v (r:Nat) W (k:Nat) (hT:ErrT W) (h:ErrX W v r ⟨#[99,117,114,115,111,114]⟩ k) (hr:r<=15)=>quv v r ⟨#[99,117,114,115,111,114]⟩ k W hT h hr
 have HI0:=hdQ (fun W (k:Nat) (hT:ErrT W)=>show C9 10 #[.nilIface,.int .i64 0,.string ⟨#[99,117,114,115,111,114]⟩,.int .i64 k] W (Ret W (.bool true)) from hIs .nilIface 0 W k hT (.inl ⟨rfl,rfl⟩) dE)
 have HI12:=hdQ (fun v W (k:Nat) (hT:ErrT W) (h:ErrX W v 12 ⟨#[99,117,114,115,111,114]⟩ k)=>show C9 10 #[v,.int .i64 12,.string ⟨#[99,117,114,115,111,114]⟩,.int .i64 k] W (Ret W (.bool true)) from hIs v 12 W k hT h dE)
 have HI15:=hdQ (fun v W (k:Nat) (hT:ErrT W) (h:ErrX W v 15 ⟨#[99,117,114,115,111,114]⟩ k)=>show C9 10 #[v,.int .i64 15,.string ⟨#[99,117,114,115,111,114]⟩,.int .i64 k] W (Ret W (.bool true)) from hIs v 15 W k hT h dE)
 clear hM hst hN h64 hT hit hIs hF hTB
 simp only [gP]
 go_enter Tryz.func11,Tryz.ntmps11
 go_wp2_with fail
 go_loopw [9,10,11] (fun v9 v10 v11 wr=>∃(i k:Nat) (o:Bool) (t' :Tr) (own' imm' :Nat->Prop),v9=.int .i64 k/\v10=.bool (!o)/\v11=.int .i64 i/\i<=m/\k<=N/\t'.items.length<=80+i/\PlM F w wr Zc Zw own' imm' cb tb mb Aw S k o t') (fun _ _ vi _=>m-(Go.RowKit.intOf vi).toNat)
 case atStart=>exact ⟨0,0,true,t,own,imm,rfl,rfl,rfl,zly _,zly _,HIT.out,HM0.out⟩
 case round=>
  obtain⟨i,k,o,t',own',imm',rfl,rfl,rfl,him,hkN,hil,hM⟩:=hrel;have HM:=hdQ hM;clear hM HM0 HIT
  by_cases hlt:i<m
  case neg=>
   obtain rfl:m=i:=oQ
   go_wp2_with fail;go_ret;exact⟨rfl,HM.out.bl⟩
  have hltI:(i:Int)<(m:Int):=oQ
  obtain⟨b,off,rfl,hbl,hcell⟩:=(HSt.out wr HM.out.bl).2 oQ
  have hsl:st.length=m:=(HSt.out wr HM.out.bl).1;obtain⟨z,hz⟩:∃z,st[i]? =some z:=⟨st[i]'oQ,zby _⟩
  obtain⟨q0,q1⟩:=hcell i z hz;have h64:=H64.out z (zjy hz);have hbw:b<wr.heap.size:=zky hbl (zcy hB HM.out.bl.size);have HTo:=hdQ (fun W (k' :Nat) (o' :Bool) (h:CurAt W Zc cb S k' o')=>qdb h)
  have HET2:=hdQ (fun W (hW:Below wr.heap.size wr W)=>HET.out W (HM.out.bl.below hW))
  obtain⟨z0,z1⟩:=z
  simp only at q0 q1 h64
  clear hcell hsl hz hlt
  simp only [gP] at*
  by_cases k1:z0=1
  · subst k1
    cases o with
    | false=>
      have HNx:=hdQ (fun W (hW:Below wr.heap.size wr W)=>qqk (HM.out.tr hW).c)
      simp only [nr0,gP] at HNx
      go_wp2_with (first
       | (go_at_call 18;(refine(HNx.out _ bel).mono ?_);rintro e w7 ⟨v7,rfl,hx7,hb7⟩;obtain⟨te7,ue7,rfl⟩:=ErrX.succ hx7 dE;have HX7:=hdQ hx7;clear hx7;obtain⟨hc7,hf7,hz7⟩:=bc3 hb7;(try simp at hz7))
       | (go_at_call 10;(refine(HI12.out _ _ _ (HET2.out _ bel) (HX7.out.tr bel)).monoR ?_);rintro ws hbs hcs hfs hzs;(try simp at hzs))
       | (go_at_call 32;(refine(qdb (HM.out.tr bel).c).monoR ?_);rintro wt hbt hct hft hzt;(try simp at hzt)))
      go_roundw
      case rel=>exact ⟨i+1,k,false,t',own',imm',rfl,rfl,by go_num,by omega,hkN,by omega,HM.out.tr bel⟩
      case measure=>simp [Go.RowKit.intOf];omega
    | true=>
      by_cases hkn:k<N
      case pos=>
       have hknI:(k:Int)<(N:Int):=oQ
       obtain⟨y,hy⟩:∃y,S[k]? =some y:=⟨S[k]'(by rw [HSl.out];exact hkn),zby _⟩
       have HNx:=hdQ (fun W (hW:Below wr.heap.size wr W)=>qqj (HM.out.tr hW).c (by rw [HSl.out];omega) hy)
       have HRow:=hdQ (fun W (h:qb4 W Zw Aw (nrVs S))=>q2f h hy)
       simp only [nrA,gP] at HNx;obtain⟨n1,hn1⟩:∃d,y.2.num/18446744073709551616=d:=⟨_,rfl⟩;obtain⟨n0,hn0⟩:∃d,y.2.num%18446744073709551616=d:=⟨_,rfl⟩;obtain⟨nd,hnd⟩:∃d,y.2.den=d:=⟨_,rfl⟩;obtain⟨ni,hni⟩:∃d,y.1=d:=⟨_,rfl⟩;have HNV:=hdQ (And.intro hn1 (And.intro hn0 (And.intro hnd hni)));rw [hn1,hn0,hnd,hni] at HNx;clear hn1 hn0 hnd hni hy
       go_wp2_with (go_at_call 18;(refine(HNx.out _ bel).mono ?_);rintro e w7 ⟨rfl,hC7,ht7⟩;have HM7:=hdQ ((HM.out.tr bel).cur hC7 ht7);clear hC7 ht7)
       refine qcn (fun w8=>PlM F w w8 Zc Zw own' imm' cb tb mb (Aw) S (k+1) true t' /\Blk w8 w7.heap.size 58 #[.int .i64 ni,.int .u64 (n1:Int),.int .u64 (n0:Int),.int .u64 (nd:Int)]) ⟨?_,?_⟩ ?_
       · exact HM7.out.tr bel
       · exact blkA
       obtain⟨G,hG⟩:∃G,w7.heap.size=G:=⟨_,rfl⟩
       rw [hG]
       clear hG;rintro w8 ⟨hM8,hB8⟩;obtain⟨bb,off8,rfl,hbl8,a0,a1,a2,a3⟩:=HRow.out _ hM8.n;rw [HNV.out.1] at a1;rw [HNV.out.2.1] at a2;rw [HNV.out.2.2.1] at a3;rw [HNV.out.2.2.2] at a0;obtain⟨g0,g1,g2,g3⟩:=ce4 hB8;have gl:=hB8.lt;have H8:=hdQ hM8;clear hM8 hB8;go_wp2_with fail;refine qac kr kr pq ?_
       simp only [zdy,zey,ldz,lds,bare,qal,lcz,lcs,zay]
       repeat' ((try simp only [Act.put,lsi,lsz,lss]);first|(refine qbs ?_ ?_;focus(simp only [lAq,zgy,zfy];done))|(refine qbd ?_ ?_ ?_;(focus(simp only [lAq,zgy,zfy];done));(focus(exact bel)))|(refine qaz (X:= ?_) ?_ ?_ (fun hg=> ?_) (fun hg=> ?_);rotate_left;(focus(simp only [lAq];with_reducible rfl));(focus(exact bel));all_goals(try simp only [zgy,zfy] at hg))|(refine lqx ?_)|(refine qab qaa rfl (fun K hK=> ?_);go_simp;((first |  fail|skip)<;>(refine hK.out _ _ bel ?_;clear hK K))))
       (all_goals try simp only [Act.put,lsi,lsz,lss]);all_goals(refine qad ?_)
       go_wp2_with (go_at_call 32;(refine(qdb (H8.out.tr bel).c).monoR ?_);rintro wt hbt hct hft hzt;(try simp at hzt))
       go_roundw
       case rel=>exact ⟨i+1,k+1,true,t',own',imm',by go_num,rfl,by go_num,by omega,by omega,by omega,H8.out.tr bel⟩
       case measure=>simp [Go.RowKit.intOf];omega
      case neg=>
       obtain rfl:N=k:=oQ
       have HNx:=hdQ (fun W (hW:Below wr.heap.size wr W)=>q2h (S:=S) (cb:=cb) (Z:=Zc) (w:=W) (by rw [HSl.out];exact(HM.out.tr hW).c) (by rw [HSl.out];omega))
       simp only [nr0,gP] at HNx;rw [HSl.out] at HNx
       go_wp2_with (first
        | (go_at_call 18;(refine(HNx.out _ bel).mono ?_);rintro e w7 ⟨v7,rfl,hx7,hC7,ht7⟩;obtain⟨te7,ue7,rfl⟩:=ErrX.succ hx7 dE;have HX7:=hdQ hx7;have HM7:=hdQ ((HM.out.tr bel).cur hC7 ht7);clear hx7 hC7 ht7)
        | (go_at_call 10;(refine(HI15.out _ _ _ (HET.out _ (HM7.out.tr bel).bl) (HX7.out.tr bel)).monoR ?_);rintro ws hbs hcs hfs hzs;(try simp at hzs))
        | (go_at_call 32;(refine(qdb (HM7.out.tr bel).c).monoR ?_);rintro wt hbt hct hft hzt;(try simp at hzt)))
       go_roundw
       case rel=>exact ⟨i+1,N,true,t',own',imm',rfl,rfl,by go_num,by omega,zhy _,by omega,HM7.out.tr bel⟩
       case measure=>simp [Go.RowKit.intOf];omega
  by_cases k2:z0=2
  · subst k2
    cases o with
    | false=>
      have HTk:=hdQ (fun W (hW:Below wr.heap.size wr W)=>qjr (HM.out.tr hW).c z1)
      simp only [gP] at HTk
      go_wp2_with (first
       | (go_at_call 28;(refine(HTk.out _ bel).mono ?_);rintro e w7 ⟨v7,rfl,hx7,hb7⟩;obtain⟨te7,ue7,rfl⟩:=ErrX.succ hx7 dE;have HX7:=hdQ hx7;clear hx7;obtain⟨hc7,hf7,hz7⟩:=bc3 hb7;(try simp at hz7))
       | (go_at_call 10;(refine(HI12.out _ _ _ (HET2.out _ bel) (HX7.out.tr bel)).monoR ?_);rintro ws hbs hcs hfs hzs;(try simp at hzs)))
      go_roundw
      case rel=>exact ⟨i+1,k,false,t',own',imm',rfl,rfl,by go_num,by omega,hkN,by omega,HM.out.tr bel⟩
      case measure=>simp [Go.RowKit.intOf];omega
    | true=>
      obtain⟨j,hj⟩:∃j,tkN z1 N k=j:=⟨_,rfl⟩;obtain⟨d,hd⟩:∃d,N-k=d:=⟨_,rfl⟩;have HTk:=hdQ (fun W (hW:Below wr.heap.size wr W)=>ql8 (HM.out.tr hW).c (by rw [HSl.out];omega) z1 h64)
      rw [HSl.out,hj] at HTk;unfold tkN at hj;have hjd:j<=d:=oQ
      have hPl:((S.drop k).take j).length=j:=by rw [List.length_take,List.length_drop,HSl.out];omega
      have hsub:(N:Int)-(k:Int)=(d:Int):=oQ
      have hwd:IntKind.i64.wrap (d:Int)=(d:Int):=IntWalk.i64_in _ ⟨by omega,by omega⟩
      have hmin:min (max z1 0) (d:Int)=(j:Int):=oQ
      obtain⟨q,hq⟩:∃q,k+j=q:=⟨_,rfl⟩;have hqN:q<=N:=oQ
      have hkj:(k:Int)+(j:Int)=(q:Int):=oQ
      have hwq:IntKind.i64.wrap (q:Int)=(q:Int):=IntWalk.i64_in _ ⟨by omega,by omega⟩
      have hwk:IntKind.i64.wrap (k:Int)=(k:Int):=IntWalk.i64_in _ ⟨by omega,by omega⟩
      have hkq:(k:Int)<=(q:Int):=oQ
      have hqc:(q:Int)<=(cw:Int):=oQ
      have hqk:q-k=j:=oQ
      have HSN:=hdQ (fun W A5 c5 (Z5:Nat->Prop) (h5:qb4 W Z5 A5 (nrVs ((S.drop k).take j))) (hn:qb4 W Zw Aw (nrVs S))=>show C9 29 #[.slice A5 j c5,.slice (if cw=k then Aw else Option.map (fun x=>x.add (k*4)) Aw) j (cw-k)] W (Ret W (.bool true)) from by
       have:=qpx A5 (if cw=k then Aw else Option.map (fun x=>x.add (k*4)) Aw) c5 (cw-k) ((S.drop k).take j) Z5 Zw W h5 (qr3 hn (by rw [HSl.out];exact hNw) (by rw [HSl.out];omega)) (by rw [hPl];omega)
       rw [hPl] at this
       exact this)
      rw [hPl,hq] at HTk;have HPl:=hdQ hPl;simp only [gP] at HTk;clear hj hd hjd hPl hq
      go_wp2_with (first
       | (go_at_call 28;(refine(HTk.out _ bel).mono ?_);rintro e w7 ⟨v7,rfl,ho7,hC7,ht7⟩;obtain⟨A7,c7,rfl,_,_,_⟩:=qao ho7;have HC7:=hdQ (qgi ho7 rfl);have HM7:=hdQ ((HM.out.tr bel).cur hC7 ht7);have q7:=((HBl.out _ HM7.out.bl).cell (p:=⟨b,off+i*2+1,none⟩) hbl).trans (((HBl.out _ HM.out.bl).cell (p:=⟨b,off+i*2+1,none⟩) hbl).symm.trans q1);have hb7:=zky hbl (zcy hB HM7.out.bl.size);clear ho7 hC7 ht7)
       | (go_at_call 29;(refine(HSN.out _ _ _ _ (HC7.out.kept (qag bel) sI) (HM7.out.tr bel).n).monoR ?_);rintro ws hbs hcs hfs hzs;(try simp at hzs))
       | (go_at_call 32;(refine(qdb (HM7.out.tr bel).c).monoR ?_);rintro wt hbt hct hft hzt;(try simp at hzt)))
      go_roundw
      case rel=>exact ⟨i+1,q,true,t',own',imm',rfl,rfl,by go_num,by omega,hqN,by omega,HM7.out.tr bel⟩
      case measure=>simp [Go.RowKit.intOf];omega
  by_cases k3:z0=3
  · subst k3
    cases o with
    | false=>
      have HCl:=hdQ (fun W (hW:Below wr.heap.size wr W)=>qo0 (HM.out.tr hW).c)
      simp only [gP] at HCl
      go_wp2_with (first
       | (go_at_call 30;(refine(HCl.out _ bel).mono ?_);rintro e w7 ⟨v7,rfl,hx7,hb7⟩;obtain⟨te7,ue7,rfl⟩:=ErrX.succ hx7 dE;have HX7:=hdQ hx7;clear hx7;obtain⟨hc7,hf7,hz7⟩:=bc3 hb7;(try simp at hz7))
       | (go_at_call 10;(refine(HI12.out _ _ _ (HET2.out _ bel) (HX7.out.tr bel)).monoR ?_);rintro ws hbs hcs hfs hzs;(try simp at hzs))
       | (go_at_call 32;(refine(qdb (HM.out.tr bel).c).monoR ?_);rintro wt hbt hct hft hzt;(try simp at hzt)))
      go_roundw
      case rel=>exact ⟨i+1,k,false,t',own',imm',rfl,rfl,by go_num,by omega,hkN,by omega,HM.out.tr bel⟩
      case measure=>simp [Go.RowKit.intOf];omega
    | true=>
      have HCl:=hdQ (fun W (hW:Below wr.heap.size wr W)=>qw8 (HM.out.tr hW).c)
      simp only [gP] at HCl
      go_wp2_with (first
       | (go_at_call 30;(refine(HCl.out _ bel).mono ?_);rintro e w7 ⟨rfl,hC7,ht7⟩;have HM7:=hdQ ((HM.out.tr bel).cur hC7 ht7);clear hC7 ht7)
       | (go_at_call 10;(refine(HI0.out _ _ (HET.out _ (HM7.out.tr bel).bl)).monoR ?_);rintro ws hbs hcs hfs hzs;(try simp at hzs))
       | (go_at_call 32;(refine(qdb (HM7.out.tr bel).c).monoR ?_);rintro wt hbt hct hft hzt;(try simp at hzt)))
      go_roundw
      case rel=>exact ⟨i+1,k,false,t',own',imm',rfl,rfl,by go_num,by omega,hkN,by omega,HM7.out.tr bel⟩
      case measure=>simp [Go.RowKit.intOf];omega
  by_cases k4:z0=4
  · subst k4
    have hwi:IntKind.i64.wrap ((1000000:Int)+(i:Int))=1000000+(i:Int):=IntWalk.i64_in _ ⟨by omega,by omega⟩
    have HSh:=hdQ (fun W=>qvm (i:Int) z1 z1 3 W)
    have HIns:=hdQ (fun W id k n A l (hW:Below wr.heap.size wr W) (hp:qax W W.heap.size A n l) (hn:n<=4)=>qzo (qnt (qi2 3 0 false 0 dE) (qlc 3 0 false 0) (qqw 3 0 false 0 dE) (HM.out.tr hW).g oQ id W.heap.size n n k A l hp (zhy _) oQ) hil)
    simp only [gP] at HIns;go_wp2_with fail;refine qaw [0,1,2,3,4,5,6,7,8,9,10,11,12,13,14] [15] kr kr pq ?_
    simp only [zdy,zey,ldz,lds,bare,qal,lcz,lcs,zay,qdl,Option.isNone_none,Bool.and_true,Bool.true_and,Bool.false_and,Bool.and_self]
    repeat((try simp only [Act.put,lsi,lsz,lss]);first|(refine qbn (v:= ?_) qaa rfl ?_ ?_;rotate_left;focus(intro wq;go_simp;try with_reducible rfl))|(refine qbc (v:= ?_) qaa rfl ?_ ?_;rotate_left;focus(intro wq hq;obtain⟨hcq,hfq⟩:=qa7 hq;go_simp;try with_reducible rfl))|(refine qbe qaa rfl (fun K hK=> ?_);go_simp;((first|(go_at_call 17;(with_reducible refine(HSh.out _).mono ?_);rintro e w7 ⟨g7,m7,rfl,hp7,hm7,hb7⟩;have HP7:=hdQ hp7;clear hp7;obtain⟨hc7,hf7,hz7⟩:=bc3 hb7;(try simp at hz7))|skip)<;>(refine hK.out _ _ bel ?_;clear hK K))))
    (all_goals try simp only [Act.put,lsi,lsz,lss])
    refine qb2 ?_;refine qar (fun K hK=> ?_)
    go_simp
    go_at_call 21;(refine(HIns.out _ _ _ _ _ _ bel (qax.tr HP7.out bel (zhy _)) hm7).mono ?_);rintro e w8 ⟨v8,rfl,t8,own8,imm8,hA8,hG8,hl8⟩;have HM8:=hdQ ((HM.out.tr (show Below wr.heap.size wr _ from bel)).tree hA8 hG8);clear hA8 hG8
    refine hK.out _ _ ?_;clear hK K
    (try simp only [Act.put,lsi,lsz,lss])
    refine qb1 ?_
    go_wp2_with (go_at_call 32;(refine(qdb (HM8.out.tr bel).c).monoR ?_);rintro wt hbt hct hft hzt;(try simp at hzt))
    go_roundw
    case rel=>exact ⟨i+1,k,o,t8,own8,imm8,rfl,rfl,by go_num,by omega,hkN,by omega,HM8.out.tr bel⟩
    case measure=>simp [Go.RowKit.intOf];omega
  by_cases k5:z0=5
  · subst k5
    have HDl:=hdQ (fun W (hW:Below wr.heap.size wr W)=>(qxh (qi2 3 0 false 0 dE) (qlc 3 0 false 0) (HM.out.tr hW).g oQ z1 h64))
    simp only [gP] at HDl
    go_wp2_with (first
     | (go_at_call 31;(refine(HDl.out _ bel).mono ?_);rintro e w7 ⟨v7,rfl,_,hd7⟩;obtain⟨t7,own7,imm7,hA7,hG7,hl7⟩:=q3c hd7 hil;have HM7:=hdQ ((HM.out.tr bel).tree hA7 hG7);clear hd7 hA7 hG7)
     | (go_at_call 32;(refine(qdb (HM7.out.tr bel).c).monoR ?_);rintro wt hbt hct hft hzt;(try simp at hzt)))
    go_roundw
    case rel=>exact ⟨i+1,k,o,t7,own7,imm7,rfl,rfl,by go_num,by omega,hkN,by omega,HM7.out.tr bel⟩
    case measure=>simp [Go.RowKit.intOf];omega
  go_wp2_with (go_at_call 32;(refine(qdb (HM.out.tr bel).c).monoR ?_);rintro wt hbt hct hft hzt;(try simp at hzt))
  go_roundw
  case rel=>exact ⟨i+1,k,o,t',own',imm',rfl,rfl,by go_num,by omega,hkN,by omega,HM.out.tr bel⟩
  case measure=>simp [Go.RowKit.intOf];omega
theorem qfp.moreN {w:World} {B B' n:Nat} {A:Option Addr} {l:List (Int×Ob)} (h:qfp w B A n l) (hB:B<=B'):qfp w B' A n l:=by
 refine⟨h.1,fun hn=> ?_,fun b off k p hA hp=> ?_⟩
 · obtain⟨b,off,e,hb⟩:=h.2.1 hn
   exact⟨b,off,e,by omega⟩
 · obtain⟨A',n',c',h1,h2,h3,h4⟩:=h.2.2 b off k p hA hp
   exact⟨A',n',c',h1,h2,h3,h4.more hB⟩
theorem qzl {F:Nat->Prop} {B:Nat} {L:List Nat} {w W W' :World} (hk:Keep B L w W) (ht:TurnF F W W') (hF:∀k,F k->B<=k/\k ∉ L):Keep B L w W' :=
 ⟨zcy hk.size ht.size,fun k hk' hB=>(ht.block k (zky hk' hk.size) fun q=>by
  have:=hF k q
  rcases hB with hB|hB
  · omega
  · exact this.2 hB).trans (hk.block k hk' hB)⟩
theorem qxb {F:Nat->Prop} {B:Nat} {a W W' :World} (h:Below B a W) (hB:B<=a.heap.size) (ht:TurnF F W W') (hF:∀k,F k->B<=k):Below B a W' :=h.trans (qcs ht hF (zcy hB h.size))
theorem scanNears_walk (n c m c2:Nat) (A A2:Option Addr) (l:List (Int×Ob)) (st:List (Int×Int)) (x y:Int) (w:World) (hl:qfp w w.heap.size A n l) (hn:n<=9223372036854775807) (hst:qtm w w.heap.size A2 m st) (hm:m<=9223372036854775807) (h64:∀p∈st,-9223372036854775808<=p.2/\p.2<=9223372036854775807) (hT:ErrT w):
 C9 3 #[.slice A n c,ptV x y,.slice A2 m c2] w (Ret w (.bool true)):=by
 have HSm:=hdQ (fun W (hW:Below w.heap.size w W)=>qps w.heap.size n c A l W (hl.below hW) hW.size hn)
 have HPo:=hdQ (fun W=>qai x y W)
 have HA:=hdQ qtl;have HL:=hdQ hl;have HSt:=hdQ (And.intro hst h64);have HT:=hdQ hT;have HIs:=hdQ (fun v (r:Nat) W (hT:ErrT W) (h:ErrX W v r ⟨#[115,99,97,110]⟩ 0) (hr:r<=15)=>quv v r ⟨#[115,99,97,110]⟩ 0 W hT h hr)
 clear hl hst h64 hT
 by_cases hm100:m<=100
 case neg=>
  have hm1:(100:Int)<(m:Int):=oQ
  have hm2:100<m:=oQ
  go_enter Tryz.func3,Tryz.ntmps3
  go_wp2_with (first
   | (go_at_call 5;(refine(HSm.out _ bel).mono ?_);rintro e w1 ⟨s,rfl,_,hb1⟩;cases s)
   | (go_at_call 6;(with_reducible refine(HA.out _).monoR ?_);rintro wa hba hca hfa hza;(try simp at hza)))
  all_goals
   go_ret;exact⟨rfl,bel⟩
 have hm1:¬ (100:Int)<(m:Int):=oQ
 have hm2:¬ 100<m:=oQ
 go_enter Tryz.func3,Tryz.ntmps3
 go_wp2_with (first
  | (go_at_call 5;(refine(HSm.out _ bel).mono ?_);rintro e w1 ⟨s,rfl,hs,hb1⟩;have g0:Blk w1 w.heap.size 24 #[.int .i64 x,.int .i64 y]:=blkA;obtain⟨hc1,hf1,hz1⟩:=bc3 hb1;(try simp at hz1);have HS1:=hdQ hs;clear hs;cases s)
  | (go_at_call 6;(with_reducible refine(HA.out _).monoR ?_);rintro wa hba hca hfa hza;(try simp at hza)))
 · go_ret
   exact⟨rfl,bel⟩
 obtain⟨h80,hpts⟩:=HS1.out (by trivial)
 have HMd:=hdQ (fun W (hW:Below w.heap.size w W)=>qnc A n c l W ((HL.out.below hW).moreN hW.size) oQ (fun p hp=>zcy (hpts p hp) dE))
 have hln:l.length=n:=HL.out.1;have H80:=hdQ (And.intro h80 (And.intro hln hm100));clear h80 hpts hln HS1 HSm hm1 hm2
 go_wp2_with (go_at_call 7;(refine(HMd.out _ bel).mono ?_);rintro e w2 ⟨tb,mm,rfl,hm2,hb2⟩;have HM2:=hdQ hm2;have HWl:=hdQ g0.lt;clear hm2;have gB0:Blk w2 w.heap.size 24 #[.int .i64 x,.int .i64 y]:=blkA;obtain⟨k0,k1⟩:=ce2 gB0;have kl:=gB0.lt;have hz2:=hb2.size;(try simp at hz2))
 have HGB:=hdQ gB0;have HB02:Hid (Below w.heap.size w w2):=by unfold Hid;clear gB0;exact bel
 obtain⟨mb,own,imm,Z,t,L,hSd,hf4,hown⟩:=HM2.out;have HOw:Hid (∀b,own b\/imm b\/Z b->w.heap.size<b):=fun b hb=>zky HWl.out (by simpa using hown b hb)
 clear gB0 g0 hb1 hz1 hb2 hz2 HMd;have hz02:=HB02.out.size;have HSd:=hdQ hSd
 have hil:t.items.length<=80:=by
  have h1:=congrArg List.length hSd.ot;have h2:=qqx l;have h3:=H80.out;unfold obsT at h1;rw [zyy] at h1
  omega
 have HIL:=hdQ hil;have htb:tb<w2.heap.size:=by obtain⟨_,_,_,_,q⟩:=hSd.g.lay.c0;exact q
 clear HM2 hSd hf4 hil hown
 cases hp:okPt ⟨x,y⟩ with
 | false=>
   have HN:=hdQ (fun W=>qsn (some ⟨tb,0,none⟩) x y hp W)
   rw [hp] at HPo;clear hp
   go_wp2_with (first
    | (go_at_call 8;(refine(HN.out _).mono ?_);rintro e w3 ⟨v3,rfl,hx3,hb3⟩;obtain⟨te3,ue3,rfl⟩:=ErrX.succ hx3 dE;have HX3:=hdQ hx3;clear hx3;obtain⟨hc3,hf3,hz3⟩:=bc3 hb3;(try simp at hz3))
    | (go_at_call 9;(with_reducible refine(HPo.out _).monoR ?_);rintro wp hbp hcp hfp hzp;(try simp at hzp))
    | (go_at_call 10;(refine(HIs.out _ 2 _ (HT.out.tr (HB02.out.trans ((show Below w2.heap.size w2 _ from bel).mono hz02))) (HX3.out.tr bel) dE).monoR ?_);rintro ws hbs hcs hfs hzs;(try simp at hzs))
    | (go_at_call 6;(with_reducible refine(HA.out _).monoR ?_);rintro wa hba hca hfa hza;(try simp at hza)))
   go_ret;exact⟨rfl,HB02.out.trans ((show Below w2.heap.size w2 _ from bel).mono hz02)⟩
 | true=>
   have HN:=hdQ (fun W (hW:Below w2.heap.size w2 W)=>qy5 (HSd.out.g.tr hW) (by have:=HIL.out;omega) x y hp)
   have HMN:=hdQ (fun W (hW:Below w2.heap.size w2 W)=>(HSd.out.tr hW).near (by have:=HIL.out;omega) x y hp)
   rw [hp] at HPo;obtain⟨S,hS⟩:∃S,qqn t x y=S:=⟨_,rfl⟩;obtain⟨N,hN⟩:∃N,t.items.length=N:=⟨_,rfl⟩;have HSl:Hid (S.length=N):=by unfold Hid;rw [<-hS,qqm,hN]
   have HNK:Hid (N<=80):=by have h1:=HIL.out;unfold Hid;omega
   rw [hS] at HN;rw [hS,hN] at HMN;obtain⟨sv,hBm,hrowm,_⟩:=HSd.out.r.rw;obtain⟨Am,cm,rfl,_,_,_⟩:=qao hrowm;rw [HSd.out.len,hN] at hBm;have HBm:=hdQ hBm;clear hp hS hN hBm hrowm
   go_wp2_with (first
    | (go_at_call 8;(refine(HN.out _ bel).mono ?_);rintro e w3 ⟨cb,v3,rfl,hC3,hcb3,hb3,hv3⟩;have HC3:=hdQ (And.intro hC3 (And.intro hcb3 (And.intro hb3 hv3)));clear hC3 hcb3 hv3;obtain⟨hc3,hf3,hz3⟩:=bc3 hb3;(try simp at hz3))
    | (go_at_call 9;(with_reducible refine(HPo.out _).monoR ?_);rintro wp hbp hcp hfp hzp;(try simp at hzp))
    | (go_at_call 10;(refine(HIs.out _ 0 _ (HT.out.tr (HB02.out.trans ((show Below w2.heap.size w2 _ from bel).mono hz02))) (.inl ⟨rfl,rfl⟩) dE).monoR ?_);rintro ws hbs hcs hfs hzs;(try simp at hzs)))
   refine qcn (fun W=>Below w3.heap.size w3 W) bel ?_
   clear hc3 hf3 hb3 hz3;rintro w4 hb4;have hb24:Below w2.heap.size w2 w4:=HC3.out.2.2.1.trans (hb4.mono HC3.out.2.2.1.size);have gb0:=HGB.out.tr hb24;have gbm:=HBm.out.tr hb24;obtain⟨r0,r1⟩:=ce2 gb0;have rl:=gb0.lt;have m0:=gbm.cell 0;have ml:=gbm.lt;simp only [lAq] at m0;have HC4:=hdQ (HC3.out.1.tr hb4);have HG4:=hdQ (HSd.out.g.tr hb24);have HB24:=hdQ hb24;have HB04:=hdQ (HB02.out.trans (hb24.mono hz02));have hcb:cb<w3.heap.size:=by obtain⟨A,c,h1,_⟩:=HC3.out.1.hd;exact h1.lt
   have hcbw:cb<w4.heap.size:=zky hcb hb4.size;have htb4:tb<w4.heap.size:=zky htb hb24.size;have hmmw:mm<w2.heap.size:=HBm.out.lt
   have HF:Hid (∀k,(own k\/k=cb)->w.heap.size<=k/\k ∉ [mm,w.heap.size]):=fun k hk=>by
    have hc:=HC3.out.2.1
    rw [List.mem_cons,zhx]
    rcases hk with q|q
    · have h1:=HOw.out k (.inl q)
      refine⟨by omega,fun h=> ?_⟩
      rcases h with h|h
      · exact HSd.out.sep k (.inl q) (.inr (by rw [h];exact HSd.out.r.zm))
      · omega
    · refine⟨by omega,fun h=> ?_⟩
      rcases h with h|h<;>omega
   have HPl:Hid (∀W A16 c16,Below w4.heap.size w4 W->W.ownsRow w4.heap.size 58 4 (.slice A16 N c16) N (nrVs S)->C9 11 #[gP tb,gP cb,.slice A16 N c16,.slice A2 m c2] W fun e w' =>e=.returned (.bool true)/\TurnF (fun k=>own k\/k=cb) W w'):=fun W A16 c16 hW ho=>by
    obtain⟨_,_,e,hnc,_⟩:=qao ho;injection e with _ _ e
    have hWW:Below w.heap.size w W:=HB04.out.trans (hW.mono HB04.out.size);have hz4:=HB24.out.size;have hz34:=hb4.size;refine qyl (Zc:=fun b=>v3.ownBlock=some b) (Zw:=fun b=>(Value.slice A16 N c16).ownBlock=some b) (S:=S) (t:=t) (imm:=imm) (mb:=mb) (B:=w.heap.size) m c2 c16 N A2 st ⟨HG4.out.tr hW,HC4.out.tr hW,qgi ho rfl,fun b hb=> ?_,fun b hb q=> ?_,fun b hb=>(ho.lt b hb).2,fun b hb=> .inl hb,TurnF.refl _ _⟩ (fun k hk=>(HF.out k hk).1) hWW.size HSl.out oQ HNK.out HIL.out (HSt.out.1.below hWW) H80.out.2.2 HSt.out.2 (HT.out.tr hWW) HT.out.lt
    · have hb2:w2.heap.size<=b:=by
       rcases hb with q|q|q
       · exact HC3.out.2.2.2 b q
       · have:=HC3.out.2.1;omega
       · have:=(ho.lt b q).1;omega
      exact⟨fun q=>by have:=HSd.out.g.lay.lim b (.inl q);omega,fun q=>by have:=HSd.out.g.lay.lim b (.inr q);omega⟩
    · have:=(ho.lt b hb).1
      omega
   have HMN4:=hdQ (fun W (hW:Below w4.heap.size w4 W)=>HMN.out W (HB24.out.trans (hW.mono HB24.out.size)))
   have hz0:w.heap.size<=w4.heap.size:=HB04.out.size;clear gb0 gbm hb4 hb24 hcb hmmw k0 k1 kl HN HMN HC3 HPo htb
   simp only [gP] at*
   go_wp2_with fail;refine qec (w.heap.size) [mm,w.heap.size] [0,1,2,3,4,5,6,7,8,10,9,11,12,13,14,15] kr kr pq ?_
   simp only [zdy,zey,ldz,lds,bare,qal,lcz,lcs,zay]
   repeat' ((try simp only [Act.put,lsi,lsz,lss]);first|(refine qbs ?_ ?_;focus(simp only [lAq,zgy,zfy];done))|(refine qbd ?_ ?_ ?_;(focus(simp only [lAq,zgy,zfy];done));(focus(exact(by repeat(first|with_reducible exact Keep.refl _ _ _|with_reducible assumption|with_reducible refine Keep.drew ?_|with_reducible refine Keep.alloc ?_ _|with_reducible refine Keep.below ?_ (by with_reducible assumption))))))|(refine qaz (X:= ?_) ?_ ?_ (fun hg=> ?_) (fun hg=> ?_);rotate_left;(focus(simp only [lAq];with_reducible rfl));(focus(exact(by repeat(first|with_reducible exact Keep.refl _ _ _|with_reducible assumption|with_reducible refine Keep.drew ?_|with_reducible refine Keep.alloc ?_ _|with_reducible refine Keep.below ?_ (by with_reducible assumption)))));all_goals(try simp only [zgy,zfy] at hg))|(refine qa5 (v:= ?_) qaa rfl ?_ ?_;rotate_left;focus(intro wq hq;obtain⟨hcq,hfq⟩:=q2y hq;go_simp;try with_reducible rfl))|(refine qab qaa rfl (fun K hK=> ?_);go_simp;((first |  (go_at_call 12;(refine(HMN4.out _ bel).mono ?_);rintro e w5 ⟨v16,rfl,ho5,hb5⟩;obtain⟨A16,c16,rfl,_,_,_⟩:=qao ho5;have HO5:=hdQ ho5;clear ho5;obtain⟨hc5,hf5,hz5⟩:=bc3 hb5;(try simp at hz5))|(go_at_call 11;(refine(HPl.out _ _ _ bel (qa4 (qap HO5.out (qag bel) sI) sI)).mono ?_);rintro e w6 ⟨rfl,ht6⟩;have hkp:Keep w.heap.size [mm,w.heap.size] w4 w6:=qzl (by repeat(first|with_reducible exact Keep.refl _ _ _|with_reducible refine Keep.drew ?_|with_reducible refine Keep.alloc ?_ _|with_reducible refine Keep.below ?_ (by with_reducible assumption))) ht6 HF.out;have H6:=hdQ (qxb (HB04.out.trans (Below.mono (B:=w4.heap.size) bel HB04.out.size)) (zhy _) ht6 (fun k hk=>(HF.out k hk).1));clear ht6)|(go_at_call 6;(with_reducible refine(HA.out _).monoR ?_);rintro wa hba hca hfa hza;(try simp at hza))|skip)<;>(refine hK.out _ _ (by repeat(first|with_reducible exact Keep.refl _ _ _|with_reducible assumption|with_reducible refine Keep.drew ?_|with_reducible refine Keep.alloc ?_ _|with_reducible refine Keep.below ?_ (by with_reducible assumption))) ?_;clear hK K))))
   (all_goals try simp only [Act.put,lsi,lsz,lss]);all_goals(refine qad ?_)
   go_wp2_with fail;go_ret;exact⟨rfl,H6.out.trans ((show Below w6.heap.size w6 _ from bel).mono H6.out.size)⟩
end Go.Proofs.YteodamnfgcnmmaaGreatDoor
namespace Go.Proofs.YteodamnfgcnmmaaGreatDoor
open Go.RowKit Go.ChangeShapes Go.WideShapes Go.Deep Pg
theorem cStO:Tryz.prog.cellsOf 88=2:=by kernel_rfl
section
variable {H:Type} {enc:TypeId×Value->H} {W:World} {base b0:Nat} {spare:Nat->Bool} {held:Bool} {fuel:Nat} {cs:List Value} {x:DataW H×List MemPlace} {v:Value} {d:DataW H} {p:List MemPlace}
theorem q19 (h:DataW.trod enc Tryz.prog W base spare held fuel 25 cs=some x):∃(A:Option Addr) (n c:Nat) (l:List (Int×Int)),cs= [.slice A n c]/\qtm W W.heap.size A n l/\n<=9223372036854775807/\∀z∈l,in64 z.2:=by
 obtain⟨A,n,c,l,rfl,⟨h1,h2,h3⟩,_,hnc,hcm⟩:=open_list (α:=Int×Int) (R:=fun z cs=>cs= [.int .i64 z.1,.int .i64 z.2]/\in64 z.2) Tryz.underlying25 cStO dE
  (fun n cs' y ht=>by
    obtain⟨y0,y1,m,_,hl,h0,h1⟩:=trod_struct2 Tryz.underlying88 ht;rw [cStO] at hl;obtain⟨c0,c1,rfl⟩:=q45 hl;simp only [cInt] at h0 h1;obtain⟨i,e0⟩:=qgy h0;obtain⟨k,e1,hk⟩:=qv3 h1
    simp at e0 e1
    exact⟨(i,k),⟨by rw [e0,e1],hk⟩,by simp⟩) h
 refine⟨A,n,c,l,rfl,⟨h1,fun hn=> ?_⟩,by unfold maxLen at hcm;omega,fun z hz=> ?_⟩
 · obtain⟨b,off,rfl,hb⟩:=h2 hn
   refine⟨b,off,rfl,hb,fun k p hp=> ?_⟩
   obtain⟨cs,⟨rfl,_⟩,hat⟩:=h3 b off k p rfl hp;exact⟨hat 0 _ rfl,hat 1 _ rfl⟩
 · obtain⟨k,hk,e⟩:=List.getElem_of_mem hz
   obtain⟨b,off,rfl,hb⟩:=h2 oQ
   obtain⟨cs,⟨_,h64⟩,_⟩:=h3 b off k z rfl (by rw [zby hk,e])
   exact h64
theorem qyt {r:Reach} (hv:Value.okWide Tryz.prog W r b0 25 v) (h:DataW.Trod enc Tryz.prog W base spare held 25 v d p):
 ∃(A:Option Addr) (n c:Nat) (L:List (Int×Int)),v=.slice A n c/\qtm W W.heap.size A n L/\n<=9223372036854775807/\∀z∈L,in64 z.2:=by
 obtain⟨fuel,hf⟩:=h;obtain⟨A,n,c,l,e,hp⟩:=q19 hf;obtain⟨a',n',c',rfl⟩:=okWide_slice Tryz.underlying25 hv
 simp [Value.cells] at e
 exact⟨A,n,c,l,by rw [e.1,e.2.1,e.2.2],hp⟩
end
end Go.Proofs.YteodamnfgcnmmaaGreatDoor

/-pergolalaw18-/
import Derived.Test.YteodamnfgcnmmaaGreatDoorTSidE
import Derived.Test.YteodamnfgcnmmaaGreatDoorTDelE
import Derived.Test.YteodamnfgcnmmaaGreatDoorTItmO
set_option linter.unusedVariables false
set_option linter.unusedSimpArgs false
set_option maxHeartbeats 8000000
set_option maxRecDepth 100000
namespace Go.Proofs.YteodamnfgcnmmaaGreatDoor
open Go Go.RowKit Pg
def qth (w:World) (B:Nat) (A:Option Addr) (n:Nat) (l:List (Int×Int)):Prop:=
 l.length=n/\(0<n->∃b off,A=some ⟨b,off,none⟩/\b<B/\∀(k:Nat) (p:Int×Int),l[k]? =some p->w.cell? ⟨b,off+k*2,none⟩=some (.int .i64 p.1)/\w.cell? ⟨b,off+k*2+1,none⟩=some (.int .i64 p.2))
theorem qth.below {w w' :World} {B n:Nat} {A:Option Addr} {l:List (Int×Int)} (h:qth w B A n l) (hb:Below B w w'):qth w' B A n l:=by
 refine⟨h.1,fun hn=> ?_⟩
 obtain⟨b,off,e,hlt,hc⟩:=h.2 hn;exact⟨b,off,e,hlt,fun k p hp=>⟨(hb.cell (p:=⟨b,off+k*2,none⟩) hlt).trans (hc k p hp).1,(hb.cell (p:=⟨b,off+k*2+1,none⟩) hlt).trans (hc k p hp).2⟩⟩
theorem qro {w:World} {Z:Nat->Prop} {A:Option Addr} {c k j:Nat} {S:List Nr} (hCs:qb4 w Z A (nrVs S)) (hSc:S.length<=c) (hj:k+j<=S.length):qb4 w Z (if c=k then A else Option.map (fun x=>x.add (k*4)) A) (nrVs ((S.drop k).take j)):=by
 intro hn;rw [qdw,List.length_take,List.length_drop] at hn;have hck:¬ c=k:=oQ
 obtain⟨b,off,rfl,hz,hb,hcell⟩:=hCs (by rw [qdw];omega)
 rw [if_neg hck]
 refine⟨b,off+k*4,by simp only [Option.map_some,qmj],hz,hb,fun i u hu=> ?_⟩
 have hlen:i<j*4:=by
  have:=(zsy.1 hu).1;rw [qdw,List.length_take,List.length_drop] at this
  omega
 have e:(nrVs S)[k*4+i]? =some u:=by
  rw [<-qp6,List.getElem?_take_of_lt hlen,<-qll,List.getElem?_drop] at hu;exact hu
 have:=hcell _ _ e
 rw [show off+k*4+i=off+(k*4+i) by omega]
 exact this
structure PlM (F:Nat->Prop) (w0 w:World) (Zc Zw own imm:Nat->Prop) (cb tb mb:Nat) (Aw:Option Addr) (S:List Nr) (k:Nat) (o:Bool) (t:Tr):Prop where
 g:GAt (clsC 3 0 false 0) cl3 w own imm tb mb t
 c:CurAt w Zc cb S k o
 n:qb4 w Zw Aw (nrVs S)
 far:∀b,Zc b\/b=cb\/Zw b->¬ own b/\¬ imm b
 ncb:∀b,Zw b->b≠cb
 zl:∀b,Zw b->b<w.heap.size
 lo:∀b,own b\/b=cb->F b\/w0.heap.size<=b
 bl:TurnF F w0 w
section
variable {F:Nat->Prop} {w0 w w' :World} {Zc Zw own imm own' imm' :Nat->Prop} {cb tb mb:Nat} {Aw:Option Addr} {S:List Nr} {k k' :Nat} {o o' :Bool} {t t' :Tr}
theorem PlM.tr (M:PlM F w0 w Zc Zw own imm cb tb mb Aw S k o t) (hb:Below w.heap.size w w'):PlM F w0 w' Zc Zw own imm cb tb mb Aw S k o t:=
 ⟨M.g.tr hb,M.c.tr hb,M.n.kept (qaf hb) sI,M.far,M.ncb,fun b q=>zky (M.zl b q) hb.size,M.lo,M.bl.below hb⟩
theorem PlM.cur (M:PlM F w0 w Zc Zw own imm cb tb mb Aw S k o t) (hc:CurAt w' Zc cb S k' o') (ht:TurnF (fun b=>b=cb) w w'):PlM F w0 w' Zc Zw own imm cb tb mb Aw S k' o' t:=
 ⟨M.g.kept (qmu ht) fun g e=>by cases e;exact M.far _ (.inr (.inl rfl)),hc,M.n.turn ht fun b hb=>M.ncb b hb,M.far,M.ncb,fun b q=>zky (M.zl b q) ht.size,M.lo,M.bl.trans ht fun x q=>M.lo x (.inr q)⟩
theorem PlM.tree (M:PlM F w0 w Zc Zw own imm cb tb mb Aw S k o t) (hA:GAt (clsC 3 0 false 0) cl3 w' own' imm' tb mb t') (hg:Grow w w' own imm own' imm'):PlM F w0 w' Zc Zw own' imm' cb tb mb Aw S k o t' :=by
 have hl:∀b,Zc b\/b=cb\/Zw b->b<w.heap.size:=fun b hb=>by
  rcases hb with q|q|q
  · exact M.c.lim b q
  · obtain⟨A,c,h1,_⟩:=M.c.hd
    rw [q]
    exact h1.lt
  · exact M.zl b q
 refine⟨hA,M.c.turn hg.turn fun b hb=>(M.far b (hb.elim .inl fun q=> .inr (.inl q))).1,M.n.turn hg.turn fun b hb=>(M.far b (.inr (.inr hb))).1,fun b hb=>⟨fun q=> ?_,fun q=> ?_⟩,M.ncb,fun b q=>zky (M.zl b q) hg.size,fun b hb=> ?_,M.bl.trans hg.turn fun x q=>M.lo x (.inl q)⟩
 · have:=hl b hb
   rcases hg.oo b q with q|q
   · exact(M.far b hb).1 q
   · omega
 · have:=hl b hb
   rcases hg.ii b q with q|q
   · exact(M.far b hb).2 q
   · omega
 · have hz:=M.bl.size
   rcases hb with q|q
   · rcases hg.oo b q with q|q
     · exact M.lo b (.inl q)
     · exact .inr oQ
   · exact M.lo b (.inr q)
end
theorem q2y {C:Cl} {cl:Value} {w w' :World} {own imm:Nat->Prop} {tb mb:Nat} {t:Tr} {id:Int} {n:Nat} (h:DelG C cl w w' own imm tb mb t id) (hn:t.items.length<=n):∃t' own' imm',GAt C cl w' own' imm' tb mb t' /\Grow w w' own imm own' imm' /\t'.items.length<=n:=by
 obtain⟨t',own',imm',h1,h2,_,h3⟩:=h;exact⟨t',own',imm',h1,h2,by rw [h3];exact zcy (qko _ _) hn⟩
theorem q2n {C:Cl} {cl:Value} {w w' :World} {own imm:Nat->Prop} {tb mb:Nat} {t:Tr} {id:Int} {o:Ob} {n:Nat} (h:InsG C cl w w' own imm tb mb t id o) (hn:t.items.length<=n):∃t' own' imm',GAt C cl w' own' imm' tb mb t' /\Grow w w' own imm own' imm' /\t'.items.length<=n+1:=by
 obtain⟨t',own',imm',h1,h2,_,h3,h4⟩:=h;refine⟨t',own',imm',h1,h2,?_⟩
 by_cases q:insE C t id o=0
 · obtain⟨x,_,hx⟩:=h4 q
   rw [hx]
   exact zcy (qt3 _ _ _) oQ
 · rw [h3 q]
   omega
theorem qzj {C:Cl} {cl:Value} {w:World} {own imm:Nat->Prop} {tb mb:Nat} {t:Tr} {id:Int} {o:Ob} {s:ByteArray} {n:Nat} {f:Nat} {args:Array Value} (h:C9 f args w fun e w' =>∃v,e=.returned v/\ErrX w' v (insE C t id o) s id/\InsG C cl w w' own imm tb mb t id o) (hn:t.items.length<=n):
 C9 f args w fun e w' =>∃v,e=.returned v/\∃t' own' imm',GAt C cl w' own' imm' tb mb t' /\Grow w w' own imm own' imm' /\t'.items.length<=n+1:=
 h.mono fun e w' ⟨v,he,_,h2⟩=>⟨v,he,q2n h2 hn⟩
theorem qyi {w:World} {F Zc Zw own imm:Nat->Prop} {cb tb mb B:Nat} {Aw:Option Addr} {S:List Nr} {t:Tr} (m c cw N:Nat) (A:Option Addr) (st:List (Int×Int)) (hM:PlM F w w Zc Zw own imm cb tb mb Aw S 0 true t) (hF:∀k,F k->B<=k) (hB:B<=w.heap.size) (hN:S.length=N) (hNw:N<=cw) (hN8:N<=80) (hit:t.items.length<=80) (hst:qth w B A m st) (hm:m<=100) (h64:∀p∈st,-9223372036854775808<=p.2/\p.2<=9223372036854775807) (hT:ErrT w) (hTB:0<B):
 C9 11 #[gP tb,gP cb,.slice Aw N cw,.slice A m c] w fun e w' =>e=.returned (.bool true)/\TurnF F w w' :=by
 have HM0:=hdQ hM;have HBl:=hdQ (fun W (h:TurnF F w W)=>qcs h hF hB)
 have HSt:=hdQ (fun W (h:TurnF F w W)=>hst.below (qcs h hF hB))
 have HET:=hdQ (fun W (h:TurnF F w W)=>hT.below (qcs h hF hB) hTB)
 have HSl:=hdQ hN;have H64:=hdQ h64;have HIT:=hdQ hit;have hIs:=fun v (r:Nat) W (k:Nat) (hT:ErrT W) (h:ErrX W v r ⟨#[99,117,114,115,111,114]⟩ k) (hr:r<=15)=>qul v r ⟨#[99,117,114,115,111,114]⟩ k W hT h hr
 have HI0:=hdQ (fun W (k:Nat) (hT:ErrT W)=>show C9 10 #[.nilIface,.int .i64 0,.string ⟨#[99,117,114,115,111,114]⟩,.int .i64 k] W (Ret W (.bool true)) from hIs .nilIface 0 W k hT (.inl ⟨rfl,rfl⟩) dE)
 have HI12:=hdQ (fun v W (k:Nat) (hT:ErrT W) (h:ErrX W v 12 ⟨#[99,117,114,115,111,114]⟩ k)=>show C9 10 #[v,.int .i64 12,.string ⟨#[99,117,114,115,111,114]⟩,.int .i64 k] W (Ret W (.bool true)) from hIs v 12 W k hT h dE)
 have HI15:=hdQ (fun v W (k:Nat) (hT:ErrT W) (h:ErrX W v 15 ⟨#[99,117,114,115,111,114]⟩ k)=>show C9 10 #[v,.int .i64 15,.string ⟨#[99,117,114,115,111,114]⟩,.int .i64 k] W (Ret W (.bool true)) from hIs v 15 W k hT h dE)
 clear hM hst hN h64 hT hit hIs hF hTB
 simp only [gP]
 go_enter Tryz.func11,Tryz.ntmps11
 go_wp2_with fail
 go_loopw [9,10,11] (fun v9 v10 v11 wr=>∃(i k:Nat) (o:Bool) (t' :Tr) (own' imm' :Nat->Prop),v9=.int .i64 k/\v10=.bool (!o)/\v11=.int .i64 i/\i<=m/\k<=N/\t'.items.length<=80+i/\PlM F w wr Zc Zw own' imm' cb tb mb Aw S k o t') (fun _ _ vi _=>m-(Go.RowKit.intOf vi).toNat)
 case atStart=>exact ⟨0,0,true,t,own,imm,rfl,rfl,rfl,zly _,zly _,HIT.out,HM0.out⟩
 case round=>
  obtain⟨i,k,o,t',own',imm',rfl,rfl,rfl,him,hkN,hil,hM⟩:=hrel;have HM:=hdQ hM;clear hM HM0 HIT
  by_cases hlt:i<m
  case neg=>
   obtain rfl:m=i:=oQ
   go_wp2_with fail;go_ret;exact⟨rfl,HM.out.bl⟩
  have hltI:(i:Int)<(m:Int):=oQ
  obtain⟨b,off,rfl,hbl,hcell⟩:=(HSt.out wr HM.out.bl).2 oQ
  have hsl:st.length=m:=(HSt.out wr HM.out.bl).1;obtain⟨z,hz⟩:∃z,st[i]? =some z:=⟨st[i]'oQ,zby _⟩
  obtain⟨q0,q1⟩:=hcell i z hz;have h64:=H64.out z (zjy hz);have hbw:b<wr.heap.size:=zky hbl (zcy hB HM.out.bl.size);have HTo:=hdQ (fun W (k' :Nat) (o' :Bool) (h:CurAt W Zc cb S k' o')=>qda h)
  have HET2:=hdQ (fun W (hW:Below wr.heap.size wr W)=>HET.out W (HM.out.bl.below hW))
  obtain⟨z0,z1⟩:=z
  simp only at q0 q1 h64
  clear hcell hsl hz hlt
  simp only [gP] at*
  by_cases k1:z0=1
  · subst k1
    cases o with
    | false=>
      have HNx:=hdQ (fun W (hW:Below wr.heap.size wr W)=>qp9 (HM.out.tr hW).c)
      simp only [nr0,gP] at HNx
      go_wp2_with (first
       | (go_at_call 18;(refine(HNx.out _ bel).mono ?_);rintro e w7 ⟨v7,rfl,hx7,hb7⟩;obtain⟨te7,ue7,rfl⟩:=ErrX.succ hx7 dE;have HX7:=hdQ hx7;clear hx7;obtain⟨hc7,hf7,hz7⟩:=bc3 hb7;(try simp at hz7))
       | (go_at_call 10;(refine(HI12.out _ _ _ (HET2.out _ bel) (HX7.out.tr bel)).monoR ?_);rintro ws hbs hcs hfs hzs;(try simp at hzs))
       | (go_at_call 32;(refine(qda (HM.out.tr bel).c).monoR ?_);rintro wt hbt hct hft hzt;(try simp at hzt)))
      go_roundw
      case rel=>exact ⟨i+1,k,false,t',own',imm',rfl,rfl,by go_num,by omega,hkN,by omega,HM.out.tr bel⟩
      case measure=>simp [Go.RowKit.intOf];omega
    | true=>
      by_cases hkn:k<N
      case pos=>
       have hknI:(k:Int)<(N:Int):=oQ
       obtain⟨y,hy⟩:∃y,S[k]? =some y:=⟨S[k]'(by rw [HSl.out];exact hkn),zby _⟩
       have HNx:=hdQ (fun W (hW:Below wr.heap.size wr W)=>qp8 (HM.out.tr hW).c (by rw [HSl.out];omega) hy)
       have HRow:=hdQ (fun W (h:qb4 W Zw Aw (nrVs S))=>q4o h hy)
       simp only [nrA,gP] at HNx;obtain⟨n1,hn1⟩:∃d,y.2.num/18446744073709551616=d:=⟨_,rfl⟩;obtain⟨n0,hn0⟩:∃d,y.2.num%18446744073709551616=d:=⟨_,rfl⟩;obtain⟨nd,hnd⟩:∃d,y.2.den=d:=⟨_,rfl⟩;obtain⟨ni,hni⟩:∃d,y.1=d:=⟨_,rfl⟩;have HNV:=hdQ (And.intro hn1 (And.intro hn0 (And.intro hnd hni)));rw [hn1,hn0,hnd,hni] at HNx;clear hn1 hn0 hnd hni hy
       go_wp2_with (go_at_call 18;(refine(HNx.out _ bel).mono ?_);rintro e w7 ⟨rfl,hC7,ht7⟩;have HM7:=hdQ ((HM.out.tr bel).cur hC7 ht7);clear hC7 ht7)
       refine qck (fun w8=>PlM F w w8 Zc Zw own' imm' cb tb mb (Aw) S (k+1) true t' /\Blk w8 w7.heap.size 58 #[.int .i64 ni,.int .u64 (n1:Int),.int .u64 (n0:Int),.int .u64 (nd:Int)]) ⟨?_,?_⟩ ?_
       · exact HM7.out.tr bel
       · exact blkA
       obtain⟨G,hG⟩:∃G,w7.heap.size=G:=⟨_,rfl⟩
       rw [hG]
       clear hG;rintro w8 ⟨hM8,hB8⟩;obtain⟨bb,off8,rfl,hbl8,a0,a1,a2,a3⟩:=HRow.out _ hM8.n;rw [HNV.out.1] at a1;rw [HNV.out.2.1] at a2;rw [HNV.out.2.2.1] at a3;rw [HNV.out.2.2.2] at a0;obtain⟨g0,g1,g2,g3⟩:=ce4 hB8;have gl:=hB8.lt;have H8:=hdQ hM8;clear hM8 hB8;go_wp2_with fail;refine qac kr kr pq ?_
       simp only [zdy,zey,ldz,lds,bare,qak,lcz,lcs,zay]
       repeat' ((try simp only [Act.put,lsi,lsz,lss]);first|(refine qbw ?_ ?_;focus(simp only [lAq,zgy,zfy];done))|(refine qbg ?_ ?_ ?_;(focus(simp only [lAq,zgy,zfy];done));(focus(exact bel)))|(refine qay (X:= ?_) ?_ ?_ (fun hg=> ?_) (fun hg=> ?_);rotate_left;(focus(simp only [lAq];with_reducible rfl));(focus(exact bel));all_goals(try simp only [zgy,zfy] at hg))|(refine lqx ?_)|(refine qab qaa rfl (fun K hK=> ?_);go_simp;((first |  fail|skip)<;>(refine hK.out _ _ bel ?_;clear hK K))))
       (all_goals try simp only [Act.put,lsi,lsz,lss]);all_goals(refine qae ?_)
       go_wp2_with (go_at_call 32;(refine(qda (H8.out.tr bel).c).monoR ?_);rintro wt hbt hct hft hzt;(try simp at hzt))
       go_roundw
       case rel=>exact ⟨i+1,k+1,true,t',own',imm',by go_num,rfl,by go_num,by omega,by omega,by omega,H8.out.tr bel⟩
       case measure=>simp [Go.RowKit.intOf];omega
      case neg=>
       obtain rfl:N=k:=oQ
       have HNx:=hdQ (fun W (hW:Below wr.heap.size wr W)=>q15 (S:=S) (cb:=cb) (Z:=Zc) (w:=W) (by rw [HSl.out];exact(HM.out.tr hW).c) (by rw [HSl.out];omega))
       simp only [nr0,gP] at HNx;rw [HSl.out] at HNx
       go_wp2_with (first
        | (go_at_call 18;(refine(HNx.out _ bel).mono ?_);rintro e w7 ⟨v7,rfl,hx7,hC7,ht7⟩;obtain⟨te7,ue7,rfl⟩:=ErrX.succ hx7 dE;have HX7:=hdQ hx7;have HM7:=hdQ ((HM.out.tr bel).cur hC7 ht7);clear hx7 hC7 ht7)
        | (go_at_call 10;(refine(HI15.out _ _ _ (HET.out _ (HM7.out.tr bel).bl) (HX7.out.tr bel)).monoR ?_);rintro ws hbs hcs hfs hzs;(try simp at hzs))
        | (go_at_call 32;(refine(qda (HM7.out.tr bel).c).monoR ?_);rintro wt hbt hct hft hzt;(try simp at hzt)))
       go_roundw
       case rel=>exact ⟨i+1,N,true,t',own',imm',rfl,rfl,by go_num,by omega,zhy _,by omega,HM7.out.tr bel⟩
       case measure=>simp [Go.RowKit.intOf];omega
  by_cases k2:z0=2
  · subst k2
    cases o with
    | false=>
      have HTk:=hdQ (fun W (hW:Below wr.heap.size wr W)=>qjy (HM.out.tr hW).c z1)
      simp only [gP] at HTk
      go_wp2_with (first
       | (go_at_call 28;(refine(HTk.out _ bel).mono ?_);rintro e w7 ⟨v7,rfl,hx7,hb7⟩;obtain⟨te7,ue7,rfl⟩:=ErrX.succ hx7 dE;have HX7:=hdQ hx7;clear hx7;obtain⟨hc7,hf7,hz7⟩:=bc3 hb7;(try simp at hz7))
       | (go_at_call 10;(refine(HI12.out _ _ _ (HET2.out _ bel) (HX7.out.tr bel)).monoR ?_);rintro ws hbs hcs hfs hzs;(try simp at hzs)))
      go_roundw
      case rel=>exact ⟨i+1,k,false,t',own',imm',rfl,rfl,by go_num,by omega,hkN,by omega,HM.out.tr bel⟩
      case measure=>simp [Go.RowKit.intOf];omega
    | true=>
      obtain⟨j,hj⟩:∃j,tkN z1 N k=j:=⟨_,rfl⟩;obtain⟨d,hd⟩:∃d,N-k=d:=⟨_,rfl⟩;have HTk:=hdQ (fun W (hW:Below wr.heap.size wr W)=>ql6 (HM.out.tr hW).c (by rw [HSl.out];omega) z1 h64)
      rw [HSl.out,hj] at HTk;unfold tkN at hj;have hjd:j<=d:=oQ
      have hPl:((S.drop k).take j).length=j:=by rw [List.length_take,List.length_drop,HSl.out];omega
      have hsub:(N:Int)-(k:Int)=(d:Int):=oQ
      have hwd:IntKind.i64.wrap (d:Int)=(d:Int):=IntWalk.i64_in _ ⟨by omega,by omega⟩
      have hmin:min (max z1 0) (d:Int)=(j:Int):=oQ
      obtain⟨q,hq⟩:∃q,k+j=q:=⟨_,rfl⟩;have hqN:q<=N:=oQ
      have hkj:(k:Int)+(j:Int)=(q:Int):=oQ
      have hwq:IntKind.i64.wrap (q:Int)=(q:Int):=IntWalk.i64_in _ ⟨by omega,by omega⟩
      have hwk:IntKind.i64.wrap (k:Int)=(k:Int):=IntWalk.i64_in _ ⟨by omega,by omega⟩
      have hkq:(k:Int)<=(q:Int):=oQ
      have hqc:(q:Int)<=(cw:Int):=oQ
      have hqk:q-k=j:=oQ
      have HSN:=hdQ (fun W A5 c5 (Z5:Nat->Prop) (h5:qb4 W Z5 A5 (nrVs ((S.drop k).take j))) (hn:qb4 W Zw Aw (nrVs S))=>show C9 29 #[.slice A5 j c5,.slice (if cw=k then Aw else Option.map (fun x=>x.add (k*4)) Aw) j (cw-k)] W (Ret W (.bool true)) from by
       have:=qpp A5 (if cw=k then Aw else Option.map (fun x=>x.add (k*4)) Aw) c5 (cw-k) ((S.drop k).take j) Z5 Zw W h5 (qro hn (by rw [HSl.out];exact hNw) (by rw [HSl.out];omega)) (by rw [hPl];omega)
       rw [hPl] at this
       exact this)
      rw [hPl,hq] at HTk;have HPl:=hdQ hPl;simp only [gP] at HTk;clear hj hd hjd hPl hq
      go_wp2_with (first
       | (go_at_call 28;(refine(HTk.out _ bel).mono ?_);rintro e w7 ⟨v7,rfl,ho7,hC7,ht7⟩;obtain⟨A7,c7,rfl,_,_,_⟩:=qao ho7;have HC7:=hdQ (qgm ho7 rfl);have HM7:=hdQ ((HM.out.tr bel).cur hC7 ht7);have q7:=((HBl.out _ HM7.out.bl).cell (p:=⟨b,off+i*2+1,none⟩) hbl).trans (((HBl.out _ HM.out.bl).cell (p:=⟨b,off+i*2+1,none⟩) hbl).symm.trans q1);have hb7:=zky hbl (zcy hB HM7.out.bl.size);clear ho7 hC7 ht7)
       | (go_at_call 29;(refine(HSN.out _ _ _ _ (HC7.out.kept (qaf bel) sI) (HM7.out.tr bel).n).monoR ?_);rintro ws hbs hcs hfs hzs;(try simp at hzs))
       | (go_at_call 32;(refine(qda (HM7.out.tr bel).c).monoR ?_);rintro wt hbt hct hft hzt;(try simp at hzt)))
      go_roundw
      case rel=>exact ⟨i+1,q,true,t',own',imm',rfl,rfl,by go_num,by omega,hqN,by omega,HM7.out.tr bel⟩
      case measure=>simp [Go.RowKit.intOf];omega
  by_cases k3:z0=3
  · subst k3
    cases o with
    | false=>
      have HCl:=hdQ (fun W (hW:Below wr.heap.size wr W)=>qow (HM.out.tr hW).c)
      simp only [gP] at HCl
      go_wp2_with (first
       | (go_at_call 30;(refine(HCl.out _ bel).mono ?_);rintro e w7 ⟨v7,rfl,hx7,hb7⟩;obtain⟨te7,ue7,rfl⟩:=ErrX.succ hx7 dE;have HX7:=hdQ hx7;clear hx7;obtain⟨hc7,hf7,hz7⟩:=bc3 hb7;(try simp at hz7))
       | (go_at_call 10;(refine(HI12.out _ _ _ (HET2.out _ bel) (HX7.out.tr bel)).monoR ?_);rintro ws hbs hcs hfs hzs;(try simp at hzs))
       | (go_at_call 32;(refine(qda (HM.out.tr bel).c).monoR ?_);rintro wt hbt hct hft hzt;(try simp at hzt)))
      go_roundw
      case rel=>exact ⟨i+1,k,false,t',own',imm',rfl,rfl,by go_num,by omega,hkN,by omega,HM.out.tr bel⟩
      case measure=>simp [Go.RowKit.intOf];omega
    | true=>
      have HCl:=hdQ (fun W (hW:Below wr.heap.size wr W)=>qw5 (HM.out.tr hW).c)
      simp only [gP] at HCl
      go_wp2_with (first
       | (go_at_call 30;(refine(HCl.out _ bel).mono ?_);rintro e w7 ⟨rfl,hC7,ht7⟩;have HM7:=hdQ ((HM.out.tr bel).cur hC7 ht7);clear hC7 ht7)
       | (go_at_call 10;(refine(HI0.out _ _ (HET.out _ (HM7.out.tr bel).bl)).monoR ?_);rintro ws hbs hcs hfs hzs;(try simp at hzs))
       | (go_at_call 32;(refine(qda (HM7.out.tr bel).c).monoR ?_);rintro wt hbt hct hft hzt;(try simp at hzt)))
      go_roundw
      case rel=>exact ⟨i+1,k,false,t',own',imm',rfl,rfl,by go_num,by omega,hkN,by omega,HM7.out.tr bel⟩
      case measure=>simp [Go.RowKit.intOf];omega
  by_cases k4:z0=4
  · subst k4
    have hwi:IntKind.i64.wrap ((1000000:Int)+(i:Int))=1000000+(i:Int):=IntWalk.i64_in _ ⟨by omega,by omega⟩
    have HSh:=hdQ (fun W=>qvg (i:Int) z1 z1 3 W)
    have HIns:=hdQ (fun W id k n A l (hW:Below wr.heap.size wr W) (hp:qan W W.heap.size A n l) (hn:n<=4)=>qzj (qnp (qi7 3 0 false 0 dE) (qle 3 0 false 0) (qqg 3 0 false 0 dE) (HM.out.tr hW).g oQ id W.heap.size n n k A l hp (zhy _) oQ) hil)
    simp only [gP] at HIns;go_wp2_with fail;refine qa0 [0,1,2,3,4,5,6,7,8,9,10,11,12,13,14] [15] kr kr pq ?_
    simp only [zdy,zey,ldz,lds,bare,qak,lcz,lcs,zay,qdr,Option.isNone_none,Bool.and_true,Bool.true_and,Bool.false_and,Bool.and_self]
    repeat((try simp only [Act.put,lsi,lsz,lss]);first|(refine qb0 (v:= ?_) qaa rfl ?_ ?_;rotate_left;focus(intro wq;go_simp;try with_reducible rfl))|(refine qbl (v:= ?_) qaa rfl ?_ ?_;rotate_left;focus(intro wq hq;obtain⟨hcq,hfq⟩:=qbc hq;go_simp;try with_reducible rfl))|(refine qbp qaa rfl (fun K hK=> ?_);go_simp;((first|(go_at_call 17;(with_reducible refine(HSh.out _).mono ?_);rintro e w7 ⟨g7,m7,rfl,hp7,hm7,hb7⟩;have HP7:=hdQ hp7;clear hp7;obtain⟨hc7,hf7,hz7⟩:=bc3 hb7;(try simp at hz7))|skip)<;>(refine hK.out _ _ bel ?_;clear hK K))))
    (all_goals try simp only [Act.put,lsi,lsz,lss])
    refine qce ?_;refine qat (fun K hK=> ?_)
    go_simp
    go_at_call 21;(refine(HIns.out _ _ _ _ _ _ bel (qan.tr HP7.out bel (zhy _)) hm7).mono ?_);rintro e w8 ⟨v8,rfl,t8,own8,imm8,hA8,hG8,hl8⟩;have HM8:=hdQ ((HM.out.tr (show Below wr.heap.size wr _ from bel)).tree hA8 hG8);clear hA8 hG8
    refine hK.out _ _ ?_;clear hK K
    (try simp only [Act.put,lsi,lsz,lss])
    refine qcd ?_
    go_wp2_with (go_at_call 32;(refine(qda (HM8.out.tr bel).c).monoR ?_);rintro wt hbt hct hft hzt;(try simp at hzt))
    go_roundw
    case rel=>exact ⟨i+1,k,o,t8,own8,imm8,rfl,rfl,by go_num,by omega,hkN,by omega,HM8.out.tr bel⟩
    case measure=>simp [Go.RowKit.intOf];omega
  by_cases k5:z0=5
  · subst k5
    have HDl:=hdQ (fun W (hW:Below wr.heap.size wr W)=>(qxf (qi7 3 0 false 0 dE) (qle 3 0 false 0) (HM.out.tr hW).g oQ z1 h64))
    simp only [gP] at HDl
    go_wp2_with (first
     | (go_at_call 31;(refine(HDl.out _ bel).mono ?_);rintro e w7 ⟨v7,rfl,_,hd7⟩;obtain⟨t7,own7,imm7,hA7,hG7,hl7⟩:=q2y hd7 hil;have HM7:=hdQ ((HM.out.tr bel).tree hA7 hG7);clear hd7 hA7 hG7)
     | (go_at_call 32;(refine(qda (HM7.out.tr bel).c).monoR ?_);rintro wt hbt hct hft hzt;(try simp at hzt)))
    go_roundw
    case rel=>exact ⟨i+1,k,o,t7,own7,imm7,rfl,rfl,by go_num,by omega,hkN,by omega,HM7.out.tr bel⟩
    case measure=>simp [Go.RowKit.intOf];omega
  go_wp2_with (go_at_call 32;(refine(qda (HM.out.tr bel).c).monoR ?_);rintro wt hbt hct hft hzt;(try simp at hzt))
  go_roundw
  case rel=>exact ⟨i+1,k,o,t',own',imm',rfl,rfl,by go_num,by omega,hkN,by omega,HM.out.tr bel⟩
  case measure=>simp [Go.RowKit.intOf];omega
theorem qfq.moreN {w:World} {B B' n:Nat} {A:Option Addr} {l:List (Int×Ob)} (h:qfq w B A n l) (hB:B<=B'):qfq w B' A n l:=by
 refine⟨h.1,fun hn=> ?_,fun b off k p hA hp=> ?_⟩
 · obtain⟨b,off,e,hb⟩:=h.2.1 hn
   exact⟨b,off,e,by omega⟩
 · obtain⟨A',n',c',h1,h2,h3,h4⟩:=h.2.2 b off k p hA hp
   exact⟨A',n',c',h1,h2,h3,h4.more hB⟩
theorem qw8 {F:Nat->Prop} {B:Nat} {a W W' :World} (h:Below B a W) (hB:B<=a.heap.size) (ht:TurnF F W W') (hF:∀k,F k->B<=k):Below B a W' :=h.trans (qcs ht hF (zcy hB h.size))
end Go.Proofs.YteodamnfgcnmmaaGreatDoor
namespace Go.Proofs.YteodamnfgcnmmaaGreatDoor
open Go.RowKit Pg
theorem q26 (b:Bx):qa2 b<=15:=by unfold qa2;split<;>(try split)<;>omega
theorem qz8 (l:List Pt):qbb l<=15:=by unfold qbb;split<;>(try split)<;>(try split)<;>omega
theorem q5e (q:Qu):ckQu q<=15:=by
 unfold ckQu;have h1:=q26 q.box;have h4:=qz8 q.ring
 repeat' split
 all_goals omega
open Go
theorem q2q (l:List Int):(idNr l).length=l.length:=by unfold idNr;rw [zyy]
theorem scanSearches_walk (n c m c2 mq cq:Nat) (A A2 Aq:Option Addr) (l:List (Int×Ob)) (st:List (Int×Int)) (q:Qu) (w:World) (hl:qfq w w.heap.size A n l) (hn:n<=9223372036854775807) (hr:qan w w.heap.size Aq mq q.ring) (hmq:mq<=9223372036854775807) (hst:qth w w.heap.size A2 m st) (hm:m<=9223372036854775807) (h64:∀p∈st,-9223372036854775808<=p.2/\p.2<=9223372036854775807) (hT:ErrT w):
 C9 4 #[.slice A n c,quV q.kind q.box Aq mq cq,.slice A2 m c2] w (Ret w (.bool true)):=by
 have HSm:=hdQ (fun W (hW:Below w.heap.size w W)=>qpk w.heap.size n c A l W (hl.below hW) hW.size hn)
 have HA:=hdQ qtg;have HL:=hdQ hl;have HSt:=hdQ (And.intro hst h64);have HT:=hdQ hT;have HR:=hdQ hr;have HIs:=hdQ (fun v (r:Nat) W (hT:ErrT W) (h:ErrX W v r ⟨#[115,99,97,110]⟩ 0) (hr:r<=15)=>qul v r ⟨#[115,99,97,110]⟩ 0 W hT h hr)
 clear hl hst h64 hT hr;obtain⟨qk,⟨⟨x0,y0⟩,x1,y1⟩,ring⟩:=q;obtain⟨i0,hi,iz0,iz1,iz2⟩:=info_parts Tryz.infoNrF
 simp only [quV]
 by_cases hm100:m<=100
 case neg=>
  have hm1:(100:Int)<(m:Int):=oQ
  have hm2:100<m:=oQ
  go_enter Tryz.func4,Tryz.ntmps4
  go_wp2_with (first|(go_at_call 5;(refine(HSm.out _ bel).mono ?_);rintro e w1 ⟨s,rfl,hs,hb1⟩;have g1:Blk w1 w.heap.size 49 #[.int .i64 qk,.int .i64 x0,.int .i64 y0,.int .i64 x1,.int .i64 y1,.slice Aq mq cq]:=blkA;obtain⟨q0,q1,q2,q3,q4,q5⟩:=ce6 g1;have ql:=g1.lt;have hz1:=hb1.size;(try simp at hz1);have HS1:=hdQ hs;clear hs;cases s)|(go_at_call 6;(with_reducible refine(HA.out _).monoR ?_);rintro wa hba hca hfa hza;(try simp at hza)))
  all_goals
   go_ret;exact⟨rfl,bel⟩
 by_cases h70:mq<=70
 case neg=>
  have hm1:¬ (100:Int)<(m:Int):=oQ
  have hm2:¬ 100<m:=oQ
  have hm3:(70:Int)<(mq:Int):=oQ
  have hm4:70<mq:=oQ
  go_enter Tryz.func4,Tryz.ntmps4
  go_wp2_with (first|(go_at_call 5;(refine(HSm.out _ bel).mono ?_);rintro e w1 ⟨s,rfl,hs,hb1⟩;have g1:Blk w1 w.heap.size 49 #[.int .i64 qk,.int .i64 x0,.int .i64 y0,.int .i64 x1,.int .i64 y1,.slice Aq mq cq]:=blkA;obtain⟨q0,q1,q2,q3,q4,q5⟩:=ce6 g1;have ql:=g1.lt;have hz1:=hb1.size;(try simp at hz1);have HS1:=hdQ hs;clear hs;cases s)|(go_at_call 6;(with_reducible refine(HA.out _).monoR ?_);rintro wa hba hca hfa hza;(try simp at hza)))
  all_goals
   go_ret;exact⟨rfl,bel⟩
 have hm1:¬ (100:Int)<(m:Int):=oQ
 have hm2:¬ 100<m:=oQ
 have hm3:¬ (70:Int)<(mq:Int):=oQ
 have hm4:¬ 70<mq:=oQ
 go_enter Tryz.func4,Tryz.ntmps4
 go_wp2_with (first|(go_at_call 5;(refine(HSm.out _ bel).mono ?_);rintro e w1 ⟨s,rfl,hs,hb1⟩;have g1:Blk w1 w.heap.size 49 #[.int .i64 qk,.int .i64 x0,.int .i64 y0,.int .i64 x1,.int .i64 y1,.slice Aq mq cq]:=blkA;obtain⟨q0,q1,q2,q3,q4,q5⟩:=ce6 g1;have ql:=g1.lt;have hz1:=hb1.size;(try simp at hz1);have HS1:=hdQ hs;clear hs;cases s)|(go_at_call 6;(with_reducible refine(HA.out _).monoR ?_);rintro wa hba hca hfa hza;(try simp at hza)))
 · go_ret
   exact⟨rfl,bel⟩
 obtain⟨h80,hpts⟩:=HS1.out (by trivial)
 have HMd:=hdQ (fun W (hW:Below w.heap.size w W)=>qm9 A n c l W ((HL.out.below hW).moreN hW.size) oQ (fun p hp=>zcy (hpts p hp) dE))
 have hln:l.length=n:=HL.out.1;have H80:=hdQ (And.intro h80 (And.intro hln (And.intro hm100 h70)));clear h80 hpts hln HS1 HSm hm1 hm2 hm3 hm4
 go_wp2_with (go_at_call 7;(refine(HMd.out _ bel).mono ?_);rintro e w2 ⟨tb,mm,rfl,hm2,hb2⟩;have HM2:=hdQ hm2;have HWl:=hdQ g1.lt;clear hm2;have gB1:Blk w2 w.heap.size 49 #[.int .i64 qk,.int .i64 x0,.int .i64 y0,.int .i64 x1,.int .i64 y1,.slice Aq mq cq]:=blkA;obtain⟨j0,j1,j2,j3,j4,j5⟩:=ce6 gB1;have jl:=gB1.lt;have hz2:=hb2.size;(try simp at hz2))
 have HGB:=hdQ gB1;have HB02:Hid (Below w.heap.size w w2):=by unfold Hid;clear gB1;exact bel
 obtain⟨mb,own,imm,Z,t,L,hSd,hf4,hown⟩:=HM2.out;have HOw:Hid (∀b,own b\/imm b\/Z b->w.heap.size<b):=fun b hb=>zky HWl.out (by simpa using hown b hb)
 clear gB1 g1 q0 q1 q2 q3 q4 q5 ql hb1 hz1 hb2 hz2 HMd;have hz02:=HB02.out.size;have HSd:=hdQ hSd
 have hil:t.items.length<=80:=by
  have h1:=congrArg List.length hSd.ot;have h2:=qqh l;have h3:=H80.out;unfold obsT at h1;rw [zyy] at h1
  omega
 have HIL:=hdQ hil;have htb:tb<w2.heap.size:=by obtain⟨_,_,_,_,q⟩:=hSd.g.lay.c0;exact q
 have HRg:Hid (∀W,Below w2.heap.size w2 W->qan W W.heap.size Aq mq ring):=fun W hW=>by
  have hWW:=HB02.out.trans (hW.mono hz02);exact(HR.out.below hWW).more hWW.size
 obtain⟨r,hrq⟩:∃r,ckQu ⟨qk,⟨⟨x0,y0⟩,x1,y1⟩,ring⟩=r:=⟨_,rfl⟩;have hr15:r<=15:=by rw [<-hrq];exact q5e _
 have HCQ:=hdQ (fun W (hW:Below w2.heap.size w2 W)=>show C9 14 #[quV qk ⟨⟨x0,y0⟩,⟨x1,y1⟩⟩ Aq mq cq] W (Ret W (.int .i64 (r:Int))) from by
  have h1:=qm0 W.heap.size mq cq qk ⟨⟨x0,y0⟩,⟨x1,y1⟩⟩ Aq ring W (HRg.out W hW) (zhy _);rw [<-qs7,hrq] at h1
  exact h1)
 simp only [quV] at HCQ;clear HM2 hSd hf4 hil hown
 by_cases hr0:r=0
 case neg=>
  have HO:=hdQ (fun W (hW:Below w2.heap.size w2 W)=>qr5 (some ⟨tb,0,none⟩) ⟨qk,⟨⟨x0,y0⟩,x1,y1⟩,ring⟩ (by rw [hrq];exact hr0) Aq mq cq (by have:=H80.out;omega) W (HRg.out W hW))
  rw [hrq] at HO;have HK:=hdQ hr0;have hrI:((r:Int)==0)=false:=by simp;exact hr0
  have hrI2:¬ (r:Int)=0:=oQ
  clear hrq
  simp only [quV,gP] at*
  go_wp2_with (first
   | (go_at_call 13;(refine(HO.out _ bel).mono ?_);rintro e w3 ⟨v3,rfl,hx3,hb3⟩;obtain⟨te3,ue3,rfl⟩:=ErrX.succ hx3 HK.out;have HX3:=hdQ hx3;clear hx3;obtain⟨hc3,hf3,hz3⟩:=bc3 hb3;(try simp at hz3))
   | (go_at_call 14;(with_reducible refine(HCQ.out _ bel).monoR ?_);rintro wp hbp hcp hfp hzp;(try simp at hzp))
   | (go_at_call 10;(refine(HIs.out _ r _ (HT.out.tr (HB02.out.trans ((show Below w2.heap.size w2 _ from bel).mono hz02))) (HX3.out.tr bel) hr15).monoR ?_);rintro ws hbs hcs hfs hzs;(try simp at hzs))
   | (go_at_call 6;(with_reducible refine(HA.out _).monoR ?_);rintro wa hba hca hfa hza;(try simp at hza)))
  go_ret;exact⟨rfl,HB02.out.trans ((show Below w2.heap.size w2 _ from bel).mono hz02)⟩
 case pos=>
  subst hr0;have HO:=hdQ (fun W (hW:Below w2.heap.size w2 W)=>qyu (HSd.out.g.tr hW) (by have:=HIL.out;omega) ⟨qk,⟨⟨x0,y0⟩,x1,y1⟩,ring⟩ hrq Aq mq cq (by have:=H80.out;omega) (HRg.out W hW))
  have HMS:=hdQ (fun W (hW:Below w2.heap.size w2 W)=>(HSd.out.tr hW).srch (by have:=HIL.out;omega) ⟨qk,⟨⟨x0,y0⟩,x1,y1⟩,ring⟩ Aq mq cq (by have:=H80.out;omega) (HRg.out W hW))
  obtain⟨I,hI⟩:∃I,qft ⟨qk,⟨⟨x0,y0⟩,x1,y1⟩,ring⟩ (obsT t.items)=I:=⟨_,rfl⟩;obtain⟨K,hK⟩:∃K,I.length=K:=⟨_,rfl⟩;have HIl:=hdQ hK
  have hK8:K<=80:=by
   have h1:=HIL.out
   rw [<-hK,<-hI]
   refine zcy (qpg _ _) ?_;unfold obsT
   rw [zyy]
   exact h1
  rw [hI] at HO;rw [hI,hK] at HMS;clear hrq hI hK
  simp only [quV,gP] at*
  go_wp2_with (first
   | (go_at_call 13;(refine(HO.out _ bel).mono ?_);rintro e w3 ⟨cb,Zc,rfl,hC3,hZ3,hb3⟩;have HC3:=hdQ (And.intro hC3 (And.intro hZ3 hb3));clear hC3 hZ3;obtain⟨hc3,hf3,hz3⟩:=bc3 hb3;(try simp at hz3))
   | (go_at_call 14;(with_reducible refine(HCQ.out _ bel).monoR ?_);rintro wp hbp hcp hfp hzp;(try simp at hzp);simp only [show ((0:Nat):Int)=0 from rfl])
   | (go_at_call 10;(refine(HIs.out _ 0 _ (HT.out.tr (HB02.out.trans ((show Below w2.heap.size w2 _ from bel).mono hz02))) (.inl ⟨rfl,rfl⟩) dE).mono ?_);rintro e ws ⟨rfl,hbs⟩;have HC4:=hdQ (HC3.out.1.tr (show Below w3.heap.size w3 ws from bel));have hb2s:=(show Below w2.heap.size w2 ws from bel);have HB2S:=hdQ hb2s;have gBs:=HGB.out.tr hb2s;obtain⟨s0,s1,s2,s3,s4,s5⟩:=ce6 gBs;have sl:=gBs.lt;clear gBs hc3 hf3 hcp hfp hz3 hzp)
   | (go_at_call 15;(refine(HMS.out _ HB2S.out).mono ?_);rintro e w6 ⟨v17,rfl,ho6,hb6⟩;obtain⟨A17,c17,rfl,_,_,_⟩:=qao ho6;have HO6:=hdQ ho6;clear ho6;have hz6:=hb6.size;(try simp at hz6)))
  have hb6s:Below ws.heap.size ws w6:=hb6;have hzs:=HB2S.out.size;have HB26:=hdQ (HB2S.out.trans (hb6s.mono hzs));have HC6:=hdQ (HC4.out.tr hb6s);have HG6:=hdQ (HSd.out.g.tr HB26.out);have HB06:=hdQ (HB02.out.trans (HB26.out.mono hz02));have hcb6:cb<w6.heap.size:=by obtain⟨A,c,h1,_⟩:=HC6.out.hd;exact h1.lt
  have htb6:tb<w6.heap.size:=zky htb HB26.out.size
  have HF:Hid (∀k,(own k\/k=cb)->w.heap.size<=k):=fun k hk=>by
   rcases hk with q|q
   · have h1:=HOw.out k (.inl q)
     omega
   · have:=HC3.out.2.1 k (.inr q)
     omega
  have HPl:Hid (∀W A16 c16,Below w6.heap.size w6 W->W.ownsRow w6.heap.size 58 4 (.slice A16 K c16) K (nrVs (idNr I))->C9 11 #[gP tb,gP cb,.slice A16 K c16,.slice A2 m c2] W fun e w' =>e=.returned (.bool true)/\TurnF (fun k=>own k\/k=cb) W w'):=fun W A16 c16 hW ho=>by
   obtain⟨_,_,e,hnc,_⟩:=qao ho;injection e with _ _ e
   have hWW:Below w.heap.size w W:=HB06.out.trans (hW.mono HB06.out.size);have hz6:=HB26.out.size;refine qyi (Zc:=Zc) (Zw:=fun b=>(Value.slice A16 K c16).ownBlock=some b) (S:=idNr I) (t:=t) (imm:=imm) (mb:=mb) (B:=w.heap.size) m c2 c16 K A2 st ⟨HG6.out.tr hW,HC6.out.tr hW,qgm ho rfl,fun b hb=> ?_,fun b hb q=> ?_,fun b hb=>(ho.lt b hb).2,fun b hb=> .inl hb,TurnF.refl _ _⟩ HF.out hWW.size (by rw [q2q,HIl.out]) oQ hK8 HIL.out (HSt.out.1.below hWW) H80.out.2.2.1 HSt.out.2 (HT.out.tr hWW) HT.out.lt
   · have hb2:w2.heap.size<=b:=by
      rcases hb with q|q|q
      · exact HC3.out.2.1 b (.inl q)
      · exact HC3.out.2.1 b (.inr q)
      · have:=(ho.lt b q).1;omega
     exact⟨fun q=>by have:=HSd.out.g.lay.lim b (.inl q);omega,fun q=>by have:=HSd.out.g.lay.lim b (.inr q);omega⟩
   · have:=(ho.lt b hb).1
     omega
  clear hb6 hz6 hb6s s0 s1 s2 s3 s4 s5 sl j0 j1 j2 j3 j4 j5 jl hbs hb2s hbp hb3 HO HMS HCQ HC4 HC3;simp only [gP] at HPl;go_wp2_with fail
  go_loopw [14,15] (fun v14 v15 wr=>∃(i:Nat) (A14:Option Addr) (c14:Nat),v14=.slice A14 i c14/\v15=.int .i64 i/\i<=K/\wr.ownsRow w6.heap.size 58 4 (.slice A14 i c14) i (nrVs (idNr (I.take i)))/\Below w6.heap.size w6 wr) (fun _ vi _=>K-(Go.RowKit.intOf vi).toNat)
  case atStart=>exact ⟨0,none,0,rfl,rfl,zly _,World.ownsRow_nil _ _ _ _,Below.refl _ _⟩
  case round=>
   obtain⟨i,A14,c14,rfl,rfl,hin,hro,hb⟩:=hrel;have HRO:=hdQ hro;have HB:=hdQ hb;have hzb:=hb.size
   by_cases hlt:i<K
   case neg=>
    obtain rfl:K=i:=oQ
    have htk:I.take K=I:=zmy (by rw [HIl.out];exact zhy _)
    rw [htk] at HRO;clear hro hb htk
    go_wp2_with (first
     | (go_at_call 11;(refine(HPl.out _ _ _ (HB.out.trans (Below.mono (B:=wr.heap.size) bel HB.out.size)) (qal HRO.out (qaf bel) sI)).mono ?_);rintro e w7 ⟨rfl,ht7⟩;have H7:=hdQ (qw8 (HB06.out.trans (Below.mono (HB.out.trans (Below.mono (B:=wr.heap.size) bel HB.out.size)) HB06.out.size)) (zhy _) ht7 HF.out);clear ht7)
     | (go_at_call 6;(with_reducible refine(HA.out _).monoR ?_);rintro wa hba hca hfa hza;(try simp at hza)))
    go_ret;exact⟨rfl,H7.out.trans ((show Below w7.heap.size w7 _ from bel).mono H7.out.size)⟩
   have hiI:(i:Int)<(K:Int):=oQ
   obtain⟨z,hz⟩:∃z,I[i]? =some z:=⟨I[i]'(by rw [HIl.out];exact hlt),zby _⟩
   have hrs:=qal HO6.out (qaf hb) sI
   rcases hrs.2 with ⟨_,h0⟩|⟨g,cap,cur,e,_,hg,_⟩
   · omega
   injection e with e1 e2 e3
   subst e1 e3;have gi:=hrs.cellAt i oQ
   rw [show (idcs I)[i]? =some (.int .i64 z) by unfold idcs;rw [zpx,hz];rfl] at gi
   have gl:g<wr.heap.size:=(zqy.1 hg).1
   have htk:idNr (I.take (i+1))=idNr (I.take i)++ [(z,⟨0,0⟩)]:=by
    unfold idNr
    rw [zwy,hz,zfx]
    rfl
   have HTK:=hdQ htk;clear hro hrs hb hz hg htk
   go_wp2_with (at_builtin;refine wpList_append_own _ rfl _ _ 40 rfl w6.heap.size 58 i0 (.agg #[.int .i64 0,.int .u64 0,.int .u64 0,.int .u64 0]) 4 32 Tryz.underlying40 hi iz0 iz1 iz2 rfl dE _ _ _ rfl (qal HRO.out (qaf bel) sI) _ _ _ _ rfl rfl qur ?c2 ?c3 ?c4 ?c5 ?_)
   case c2=>simp [Value.oneCell']
   case c3=>unfold maxLen;omega
   case c4=>omega
   case c5=>first|omega|(simp;omega)
   intro v7 w7 hown hgrow _;have hb7:Below w6.heap.size w6 w7:=(HB.out.alloc hzb _).grown hgrow (by simp;omega) (fun k e=>(HRO.out.lt k e).1)
   rw [show nrVs (idNr (I.take i))++ [Value.int .i64 z,.int .u64 0,.int .u64 0,.int .u64 0]=nrVs (idNr (I.take (i+1))) by rw [HTK.out,qgo,qp5]] at hown
   obtain⟨A7,c7,rfl,_,_,_⟩:=qao hown;have H7:=hdQ (And.intro hb7 hown);clear hb7 hown hgrow;go_wp2_with fail
   go_roundw
   case rel=>exact ⟨i+1,A7,c7,rfl,by go_num,by omega,H7.out.2,H7.out.1⟩
   case measure=>simp [Go.RowKit.intOf];omega
end Go.Proofs.YteodamnfgcnmmaaGreatDoor
namespace Go.Proofs.YteodamnfgcnmmaaGreatDoor
open Go.RowKit Go.ChangeShapes Go.WideShapes Go.Deep Pg
theorem cStO:Tryz.prog.cellsOf 88=2:=by kernel_rfl
section
variable {H:Type} {enc:TypeId×Value->H} {W:World} {base b0:Nat} {spare:Nat->Bool} {held:Bool} {fuel:Nat} {cs:List Value} {x:DataW H×List MemPlace} {v:Value} {d:DataW H} {p:List MemPlace}
theorem q1y (h:DataW.trod enc Tryz.prog W base spare held fuel 25 cs=some x):∃(A:Option Addr) (n c:Nat) (l:List (Int×Int)),cs= [.slice A n c]/\qth W W.heap.size A n l/\n<=9223372036854775807/\∀z∈l,in64 z.2:=by
 obtain⟨A,n,c,l,rfl,⟨h1,h2,h3⟩,_,hnc,hcm⟩:=open_list (α:=Int×Int) (R:=fun z cs=>cs= [.int .i64 z.1,.int .i64 z.2]/\in64 z.2) Tryz.underlying25 cStO dE
  (fun n cs' y ht=>by
    obtain⟨y0,y1,m,_,hl,h0,h1⟩:=trod_struct2 Tryz.underlying88 ht;rw [cStO] at hl;obtain⟨c0,c1,rfl⟩:=q6p hl;simp only [cInt] at h0 h1;obtain⟨i,e0⟩:=qf8 h0;obtain⟨k,e1,hk⟩:=qvy h1
    simp at e0 e1
    exact⟨(i,k),⟨by rw [e0,e1],hk⟩,by simp⟩) h
 refine⟨A,n,c,l,rfl,⟨h1,fun hn=> ?_⟩,by unfold maxLen at hcm;omega,fun z hz=> ?_⟩
 · obtain⟨b,off,rfl,hb⟩:=h2 hn
   refine⟨b,off,rfl,hb,fun k p hp=> ?_⟩
   obtain⟨cs,⟨rfl,_⟩,hat⟩:=h3 b off k p rfl hp;exact⟨hat 0 _ rfl,hat 1 _ rfl⟩
 · obtain⟨k,hk,e⟩:=List.getElem_of_mem hz
   obtain⟨b,off,rfl,hb⟩:=h2 oQ
   obtain⟨cs,⟨_,h64⟩,_⟩:=h3 b off k z rfl (by rw [zby hk,e])
   exact h64
theorem qyr {r:Reach} (hv:Value.okWide Tryz.prog W r b0 25 v) (h:DataW.Trod enc Tryz.prog W base spare held 25 v d p):
 ∃(A:Option Addr) (n c:Nat) (L:List (Int×Int)),v=.slice A n c/\qth W W.heap.size A n L/\n<=9223372036854775807/\∀z∈L,in64 z.2:=by
 obtain⟨fuel,hf⟩:=h;obtain⟨A,n,c,l,e,hp⟩:=q1y hf;obtain⟨a',n',c',rfl⟩:=okWide_slice Tryz.underlying25 hv
 simp [Value.cells] at e
 exact⟨A,n,c,l,by rw [e.1,e.2.1,e.2.2],hp⟩
end
end Go.Proofs.YteodamnfgcnmmaaGreatDoor

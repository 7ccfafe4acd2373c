/-gist: parts: entries in two parts.-/
import Derived.Test.YtjopdlmbgidigaaGreatAGisP
import Derived.Test.YtjopdlmbgidigaaGreatAHeaC
set_option linter.unusedVariables false
set_option linter.unusedSimpArgs false
set_option maxHeartbeats 4000000
set_option maxRecDepth 20000
namespace Go.Proofs.YtjopdlmbgidigaaGreat
open Go Go.RowKit Pg
theorem qzf {w:World} {b b' size n:Nat} {e:TypeId} {v:Value} {xs:List Value} (h:w.ownsRow b e size v n xs) (hb:∀g,v.ownBlock=some g->b' <=g):w.ownsRow b' e size v n xs:=by
 rcases h.2 with ⟨h0,h1⟩|⟨g,cap,cur,h0,hbg,h1⟩
 · exact⟨h.1,.inl ⟨h0,h1⟩⟩
 · refine⟨h.1,.inr ⟨g,cap,cur,h0,hb g (by rw [h0];rfl),h1⟩⟩
def lenG:Value->Nat
 | .slice _ n _=>n
 | _=>0
theorem qjx {w:World} {o:Obj} {a b c:Value} {t:TypeId} (j:Nat) (v:Value) (hj: [a,b,c][j]? =some v):((w.alloc o).alloc (.cells #[a,b,c] t)).cell? ((⟨w.heap.size+1,0,none⟩:Addr).add j)=some v:=by
 have:=qf5 (w:=w.alloc o) (a:=a) (b:=b) (c:=c) (t:=t) j v hj
 rwa [show (w.alloc o).heap.size=w.heap.size+1 by simp] at this
theorem qvm {w:World} {b size n:Nat} {e:TypeId} {v:Value} {xs:List Value} (h:w.ownsRow b e size v n xs):lenG v=n:=by
 obtain⟨A,c,rfl,_⟩:=qat h
 rfl
structure TwoG (w wr:World) (lf:Bool) (va vb:Value) (a b:List En):Prop where
 ra:wr.ownsRow w.heap.size 84 3 va a.length (qaq lf a)
 rb:wr.ownsRow w.heap.size 84 3 vb b.length (qaq lf b)
 sep:∀g,va.ownBlock=some g->vb.ownBlock≠some g
 bl:Below w.heap.size w wr
section
variable {w wr W w7:World} {lf:Bool} {va vb v' :Value} {a b:List En}
theorem TwoG.swap (h:TwoG w wr lf va vb a b):TwoG w wr lf vb va b a:=⟨h.rb,h.ra,fun g hg q=>h.sep g q hg,h.bl⟩
theorem TwoG.tr (h:TwoG w wr lf va vb a b) (hW:Below wr.heap.size wr W):TwoG w W lf va vb a b:=⟨qak h.ra (qad hW) sI,qak h.rb (qad hW) sI,h.sep,h.bl.trans (hW.mono h.bl.size)⟩
theorem TwoG.push (h:TwoG w wr lf va vb a b) (hW:Below wr.heap.size wr W) {e:En} {x:Value} (hx:(if lf then Value.pointer none else gP e.kid)=x) (hown:w7.ownsRow 0 84 3 v' (a.length+1) (qaq lf a++ [e.kv,.int .i64 e.id,x])) (hg:W.grownBy w7 va.ownBlock) (hwh:v'.ownBlock=va.ownBlock\/v'.ownBlock=some W.heap.size):TwoG w w7 lf v' vb (a++ [e]) b:=by
 have h1:=h.tr hW;have hz:=h.bl.size;have hz2:=hW.size;refine⟨?_,qak h1.rb hg (fun g hg=>h1.sep g hg),?_,h1.bl.grown hg h1.bl.size fun k hk=>(h1.ra.lt k hk).1⟩
 · rw [qcr,zny,List.length_singleton]
   subst hx;refine qzf hown fun g hg=> ?_
   rcases hwh with q|q
   · rw [q] at hg;exact(h1.ra.lt g hg).1
   · rw [q] at hg;cases hg;omega
 · intro g hg q
   rcases hwh with k|k
   · rw [k] at hg;exact h1.sep g hg q
   · rw [k] at hg
     cases hg
     have:=(h1.rb.lt _ q).2
     omega
theorem TwoG.shrink {g n c:Nat} (h:TwoG w wr lf va (.slice (some ⟨g,0,none⟩) n c) a b) (hn:n=b.length) {m:Nat} (hm:m<=n):TwoG w wr lf va (.slice (some ⟨g,0,none⟩) m c) a (b.take m):=by
 subst hn;refine⟨h.ra,?_,fun g' hg q=>h.sep g' hg q,h.bl⟩
 have:=qn0 h.rb hm
 rw [List.length_take,Nat.min_eq_left hm]
 have e:qaq lf (b.take m)=(qaq lf b).take (m*3):=by
  have e1:qaq lf b=qaq lf (b.take m)++qaq lf (b.drop m):=by rw [<-qcr,List.take_append_drop]
  have e2:(qaq lf (b.take m)).length=m*3:=by
   have:∀l:List En,(qaq lf l).length=l.length*3:=fun l=>by
    induction l with
    | nil=>rfl
    | cons x r ih=>rw [show qaq lf (x::r)=qes lf x++qaq lf r from rfl,zny,ih];simp [qes];omega
   rw [this,List.length_take,Nat.min_eq_left hm]
  rw [e1,<-e2,List.take_left]
 rw [e]
 exact this
end
theorem TwoG.lower {w w3 wr:World} {lf:Bool} {va vb:Value} {a b:List En} (hb:Below w.heap.size w w3) (h:TwoG w3 wr lf va vb a b):TwoG w wr lf va vb a b:=⟨qa9 h.ra hb.size,qa9 h.rb hb.size,h.sep,hb.trans (h.bl.mono hb.size)⟩
section
variable {w:World} {own imm:Nat->Prop} {tb mb:Nat} {t:Tr} {H:Nat->Prop} {L:Int->Prop}
theorem qu7 (w:World) (B:Nat) (lf:Bool):w.ownsRow B 84 3 (.slice none 0 0) 0 (qaq lf []):=World.ownsRow_nil _ _ _ _
theorem qzd {C:Cl} {ct:TypeId} {cv:Value} {fM fC fD fU fS:Nat} (hC:ClAt ct cv C fM fC fD fU fS) (h:Lay w own imm tb mb (.iface ct cv) t H L) (lf:Bool) (l:List En) (v:Value) (hrow:w.ownsRow 0 84 3 v l.length (qaq lf l)) (hk:∀e∈l,qdz w imm e.kv e.kb) (hfan:t.fan<=1000) (hlen:t.fan/2*2<=l.length) (hmax:l.length<=10000):
 C9 118 #[gP tb,v] w fun e w' =>∃va vb a b,e=.returned (.tuple #[va,vb])/\(a++b).Perm l/\t.fan/2<=a.length/\t.fan/2<=b.length/\TwoG w w' lf va vb a b:=by
 obtain⟨i0,hi,iz0,iz1,iz2⟩:=info_parts Tryz.infoEnG;obtain⟨c0,c1,c2,c3,clt⟩:=h.c0;have HLe:=hdQ (fun W (hW:Below w.heap.size w W)=>qri (h.tr hW) hfan)
 have HKs:=hdQ (fun W (hW:Below w.heap.size w W)=>qvq lf imm l v W (qak hrow (qad hW) sI) (fun e he=>(hk e he).kept (qad hW) sI) oQ)
 have h256:∀k∈l.map En.kb,(∀x∈k,x<256)/\k.length<=1000000:=fun k hk' =>by
  obtain⟨e,he,rfl⟩:=zty.1 hk';exact⟨(hk e he).1,(hk e he).2.1⟩
 have hS:=hC.split (l.map En.kb) (by rw [zyy];omega) (fun k hk=>(h256 k hk).1) fun k hk=>(h256 k hk).2
 have HSp:=hdQ (fun W A c (hr:qfq W W.heap.size A (l.map En.kb).length (l.map En.kb))=>hS.calls W W.heap.size A c hr (zhy _))
 have mS:=hC.mS;have eS:=hS.enter;have hsl:=hS.len;obtain⟨A,c,rfl,hnc,hAn,hAb⟩:=qat hrow;have HR:=hdQ hrow;have HKB:=hdQ hk;have hml:(l.map En.kb).length=l.length:=zyy _;generalize C.split (l.map En.kb)=s at*;generalize l.map En.kb=K at*;clear h hrow hk h256 hS hC hnc hAn hAb hml;obtain⟨m,hm⟩:∃m,l.length=m:=⟨_,rfl⟩;have HM:=hdQ hm;rw [hm] at hlen hmax HKs;clear hm;obtain⟨q,hq⟩:∃q,t.fan/2=q:=⟨_,rfl⟩
 rw [hq] at hlen HLe ⊢
 have hq5:q<=500:=oQ
 have hsm:(s.length:Int)<=1000000:=oQ
 rw [HM.out]
 clear hq c1 c2 c3
 simp only [gP] at*
 go_enter Tryz.func118,Tryz.ntmps118
 go_wp2_with fail;refine qan [0,1,2,3,4,6,7,5,8,9] kr kr pq ?_
 simp only [zdy,zey,ldz,lds,bare,qal,lcz,lcs,zay]
 repeat' ((try simp only [Act.put,lsi,lsz,lss]);first|(refine lqx ?_)|(refine qab qaa rfl (fun K hK=> ?_);go_simp;((first|(go_at_call 78;(with_reducible refine(HKs.out _ bel).mono ?_);rintro e w1 ⟨s1,rfl,hK1,hb1⟩;obtain⟨A1,c1',rfl,hR1⟩:=ql1 hK1;clear hK1;obtain⟨hc1,hf1,hz1⟩:=bc3 hb1;(try simp at hz1))|((refine(HSp.out _ _ _ (hR1.tr bel (zhy _))).mono ?_);rintro e w2 ⟨A2,c2',rfl,hy2,hb2⟩;obtain⟨hc2,hf2,hz2⟩:=bc3 hb2;(try simp at hz2))|skip)<;>(refine hK.out _ _ bel ?_;clear hK K))))
 (all_goals try simp only [Act.put,lsi,lsz,lss]);all_goals(refine qaf ?_)
 go_wp2_with fail;refine qdt (fun w3=>Below w.heap.size w w3/\qne w3 w3.heap.size A2 s.length s) ⟨bel,q3t (hy2.tr bel (zhy _)) (Below.size (B:=w2.heap.size) bel)⟩ ?_
 rintro w3 ⟨hb3,hy3⟩;have hz3:=hb3.size;have HY:=hdQ hy3;have HB3:=hdQ hb3;clear hy2 hb2 hc2 hf2 hz2 hR1 hb1 hc1 hf1 hz1 hy3 mS eS
 go_loopw [4,5,20] (fun va vb vi wr=>∃(k:Nat) (a b:List En),k<=m/\vi=.int .i64 k/\(a++b).Perm (l.take k)/\TwoG w3 wr lf va vb a b) (fun _ _ vi _=>m-(Go.RowKit.intOf vi).toNat)
 case atStart=>exact ⟨0,[],[],zly _,rfl,by simp,qu7 _ _ _,qu7 _ _ _,by simp [Value.ownBlock],bel⟩
 case round=>
  obtain⟨k,a,b,hkm,rfl,hp,hT⟩:=hrel
  by_cases hlt:k<m
  case neg=>
   obtain rfl:m=k:=oQ
   have hp' :(a++b).Perm l:=by rw [zmy (by rw [HM.out];omega)] at hp;exact hp
   have HP:=hdQ hp';have HT:=hdQ hT;clear hp hp' hT;go_wp2_with fail
   go_loopw [4,5] (fun va vb wr=>∃a b:List En,(a++b).Perm l/\TwoG w3 wr lf va vb a b) (fun va _ _=>q-lenG va)
   case atStart=>exact ⟨a,b,HP.out,HT.out⟩
   case round=>
    clear HP HT;obtain⟨a2,b2,hp,hT⟩:=hrel;have hbw:=HB3.out.trans (hT.bl.mono hz3)
    have hal:a2.length+b2.length=m:=by
     have:=hp.length_eq;rw [zny,HM.out] at this;exact this
    obtain⟨Aa,ca,rfl,_,_,_⟩:=qat hT.ra
    by_cases hlt2:a2.length<q
    case neg=>
     have hlt3:¬ (a2.length:Int)<(q:Int):=oQ
     have HT:=hdQ hT;have HP:=hdQ hp;clear hT hp
     go_wp2_with (go_at_call 45;(with_reducible refine(HLe.out _ bel).mono ?_);rintro e w8 ⟨rfl,hb8⟩)
     refine qdt (fun w8' =>TwoG w3 w8' lf (.slice Aa a2.length ca) _ a2 b2) (HT.out.tr bel) ?_
     clear hb8 hbw;rintro w8' hT8;have hqa:q<=a2.length:=oQ
     go_loopw [4,5] (fun va vb wr=>∃a b:List En,(a++b).Perm l/\q<=a.length/\TwoG w3 wr lf va vb a b) (fun _ vb _=>q-lenG vb)
     case atStart=>exact ⟨a2,b2,HP.out,hqa,hT8⟩
     case round=>
      clear HP HT hT8 hqa hal hlt2 hlt3;obtain⟨a3,b3,hp,hqa,hT⟩:=hrel;have hbw:=HB3.out.trans (hT.bl.mono hz3)
      have hal:a3.length+b3.length=m:=by
       have:=hp.length_eq;rw [zny,HM.out] at this;exact this
      obtain⟨Ab,cb,rfl,_,_,_⟩:=qat hT.rb
      by_cases hlt2:b3.length<q
      case neg=>
       have hlt3:¬ (b3.length:Int)<(q:Int):=oQ
       obtain⟨Aa,ca,rfl,_,_,_⟩:=qat hT.ra;have HT:=hdQ hT;have HP:=hdQ hp;have hqb:q<=b3.length:=oQ
       clear hT hp
       go_wp2_with (go_at_call 45;(with_reducible refine(HLe.out _ bel).mono ?_);rintro e w8 ⟨rfl,hb8⟩)
       go_ret2
       exact⟨_,_,a3,b3,rfl,HP.out,hqa,hqb,TwoG.lower HB3.out (HT.out.tr bel)⟩
      have hlt3:(b3.length:Int)<(q:Int):=oQ
      obtain⟨p,hp1⟩:∃p,a3.length=p+1:=⟨a3.length-1,by omega⟩
      obtain⟨x,hx⟩:∃x,a3[p]? =some x:=⟨a3[p]'oQ,zby _⟩
      obtain⟨g,ca,rfl,_,_,_,_⟩:=qcx (qa9 hT.ra (zly _)) hx
      have hcn:a3.length<=ca:=by
       obtain⟨_,_,e,h1,_⟩:=qat hT.ra;injection e with _ _ e
       omega
      have HT:=hdQ hT;have HP:=hdQ hp;have HX:=hdQ hx;have hidx:((a3.length:Nat):Int)-1=(p:Int):=oQ
      have hpl:(p:Int)<(a3.length:Int):=oQ
      have hpc:(p:Int)<=(ca:Int):=oQ
      have hpw:IntKind.i64.wrap (p:Int)=(p:Int):=IntWalk.i64_in _ ⟨by omega,by omega⟩
      have hcc:p<=ca:=oQ
      have HP1:=hdQ hp1;clear hT hp hx hp1
      go_wp2_with (go_at_call 45;(with_reducible refine(HLe.out _ bel).mono ?_);rintro e w8 ⟨rfl,hb8⟩)
      have HT8:=hdQ (HT.out.tr hb8);obtain⟨g',c',hv,hgl,r0,r1,r2⟩:=qcx (qa9 HT8.out.ra (zly _)) HX.out;injection hv with hv1 hv2 hv3
      injection hv1 with hv1
      injection hv1 with hv1
      subst hv1 hv3;obtain⟨pz,hpz⟩:∃p,(if lf=true then Value.pointer none else gP x.kid)=.pointer p:=by cases lf<;>exact ⟨_,rfl⟩
      rw [hpz] at r2;have HPZ:=hdQ hpz;obtain⟨_,_,Ax,cx,ekx,_⟩:=HKB.out x (HP.out.mem_iff.1 (List.mem_append.2 (.inl (zjy HX.out))));rw [ekx] at r0;have HEK:=hdQ ekx;clear ekx hpz hv2 hbw hb8;refine qf0 (w3.heap.size) [g] [0,1,2,3,4,5,6,7,8,9,10,11,12,13,14,15] kr kr pq ?_
      simp only [zdy,zey,ldz,lds,bare,qal,lcz,lcs,zay]
      repeat' ((try simp only [Act.put,lsi,lsz,lss]);first|(refine qbi (v:= ?_) qaa rfl ?_ ?_;rotate_left;focus(intro wq hq;obtain⟨hcq,hfq⟩:=q5j hq;go_simp;try with_reducible rfl))|(refine qab qaa rfl (fun K hK=> ?_);(refine qc0 _ _ _ 72 rfl 84 i0 (.agg #[.slice none 0 0,.int .i64 0,.pointer none]) 3 40 Tryz.underlying72 hi iz0 iz1 iz2 rfl dE _ _ _ rfl (qa9 (TwoG.rb (TwoG.tr HT8.out bel)) (zly _)) _ _ _ _ rfl rfl qf5 ?_ ?_ ?_ dE ?_);(focus(simp [Value.oneCell']));(focus(unfold maxLen;omega));(focus omega);intro v' w9 hown' hgrow hwh;have hkp:Keep w3.heap.size [g] w8 w9:=Keep.grown (by repeat(first|with_reducible exact Keep.refl _ _ _|with_reducible refine Keep.drew ?_|with_reducible refine Keep.alloc ?_ _)) hgrow (fun k hk=>⟨(TwoG.rb HT8.out).lt k hk |>.1,fun q=>by rw [zhx] at q;subst q;exact HT8.out.sep _ rfl hk⟩);refine hK.out _ _ (by repeat(first|with_reducible exact Keep.refl _ _ _|with_reducible assumption|with_reducible refine Keep.drew ?_|with_reducible refine Keep.alloc ?_ _|with_reducible refine Keep.below ?_ (by with_reducible assumption))) ?_;clear hK K)|(refine qab qaa rfl (fun K hK=> ?_);go_simp;((first|fail  | skip)<;>(refine hK.out _ _ (by repeat(first|with_reducible exact Keep.refl _ _ _|with_reducible assumption|with_reducible refine Keep.drew ?_|with_reducible refine Keep.alloc ?_ _|with_reducible refine Keep.below ?_ (by with_reducible assumption))) ?_;clear hK K))))
      (all_goals try simp only [Act.put,lsi,lsz,lss]);all_goals(refine qaf ?_)
      have HT9:=hdQ ((TwoG.push (e:=x) HT8.out.swap bel HPZ.out (by rw [HEK.out];exact hown') hgrow (by first|exact hwh|simpa using hwh)).swap)
      clear hown' hgrow hwh;go_wp2
      go_roundw
      case rel=>
       have hp1:=HP1.out;refine⟨a3.take p,b3++ [x],?_,by rw [List.length_take];omega,TwoG.swap (TwoG.shrink HT9.out.swap rfl oQ)⟩
       have e1:a3=a3.take p++ [x]:=by
        have:=List.take_append_drop p a3;rw [zgx (by omega:p<a3.length),List.drop_of_length_le oQ] at this
        have q:=HX.out;rw [zby (by omega:p<a3.length)] at q
        injection q with q
        rw [<-q]
        exact this.symm
       refine List.Perm.trans ?_ HP.out
       conv=>rhs;rw [e1]
       rw [List.append_assoc]
       exact(List.perm_append_comm (l₁:=b3) (l₂:= [x])).append_left _
      case measure=>have hl:=qvm HT9.out.rb;rw [zny,List.length_singleton] at hl;simp only [lenG] at hl ⊢;simp;omega
    have hlt3:(a2.length:Int)<(q:Int):=oQ
    obtain⟨p,hp1⟩:∃p,b2.length=p+1:=⟨b2.length-1,by omega⟩
    obtain⟨x,hx⟩:∃x,b2[p]? =some x:=⟨b2[p]'oQ,zby _⟩
    obtain⟨g,cb,rfl,_,_,_,_⟩:=qcx (qa9 hT.rb (zly _)) hx
    have hcn:b2.length<=cb:=by
     obtain⟨_,_,e,h1,_⟩:=qat hT.rb;injection e with _ _ e
     omega
    have HT:=hdQ hT;have HP:=hdQ hp;have HX:=hdQ hx;have hidx:((b2.length:Nat):Int)-1=(p:Int):=oQ
    have hpl:(p:Int)<(b2.length:Int):=oQ
    have hpc:(p:Int)<=(cb:Int):=oQ
    have hpw:IntKind.i64.wrap (p:Int)=(p:Int):=IntWalk.i64_in _ ⟨by omega,by omega⟩
    have hcc:p<=cb:=oQ
    have HP1:=hdQ hp1;clear hT hp hx hp1
    go_wp2_with (go_at_call 45;(with_reducible refine(HLe.out _ bel).mono ?_);rintro e w8 ⟨rfl,hb8⟩)
    have HT8:=hdQ (HT.out.tr hb8);obtain⟨g',c',hv,hgl,r0,r1,r2⟩:=qcx (qa9 HT8.out.rb (zly _)) HX.out;injection hv with hv1 hv2 hv3
    injection hv1 with hv1
    injection hv1 with hv1
    subst hv1 hv3;obtain⟨pz,hpz⟩:∃p,(if lf=true then Value.pointer none else gP x.kid)=.pointer p:=by cases lf<;>exact ⟨_,rfl⟩
    rw [hpz] at r2;have HPZ:=hdQ hpz;obtain⟨_,_,Ax,cx,ekx,_⟩:=HKB.out x (HP.out.mem_iff.1 (List.mem_append.2 (.inr (zjy HX.out))));rw [ekx] at r0;have HEK:=hdQ ekx;clear ekx hpz hv2 hbw hb8;refine qf0 (w3.heap.size) [g] [0,1,2,3,4,5,6,9,10,11,12,13,7,8,14,15] kr kr pq ?_
    simp only [zdy,zey,ldz,lds,bare,qal,lcz,lcs,zay]
    repeat' ((try simp only [Act.put,lsi,lsz,lss]);first|(refine qbi (v:= ?_) qaa rfl ?_ ?_;rotate_left;focus(intro wq hq;obtain⟨hcq,hfq⟩:=q5j hq;go_simp;try with_reducible rfl))|(refine qab qaa rfl (fun K hK=> ?_);(refine qc0 _ _ _ 72 rfl 84 i0 (.agg #[.slice none 0 0,.int .i64 0,.pointer none]) 3 40 Tryz.underlying72 hi iz0 iz1 iz2 rfl dE _ _ _ rfl (qa9 (TwoG.ra (TwoG.tr HT8.out bel)) (zly _)) _ _ _ _ rfl rfl qf5 ?_ ?_ ?_ dE ?_);(focus(simp [Value.oneCell']));(focus(unfold maxLen;omega));(focus omega);intro v' w9 hown' hgrow hwh;have hkp:Keep w3.heap.size [g] w8 w9:=Keep.grown (by repeat(first|with_reducible exact Keep.refl _ _ _|with_reducible refine Keep.drew ?_|with_reducible refine Keep.alloc ?_ _)) hgrow (fun k hk=>⟨(TwoG.ra HT8.out).lt k hk |>.1,fun q=>by rw [zhx] at q;subst q;exact HT8.out.sep _ hk rfl⟩);refine hK.out _ _ (by repeat(first|with_reducible exact Keep.refl _ _ _|with_reducible assumption|with_reducible refine Keep.drew ?_|with_reducible refine Keep.alloc ?_ _|with_reducible refine Keep.below ?_ (by with_reducible assumption))) ?_;clear hK K)|(refine qab qaa rfl (fun K hK=> ?_);go_simp;((first|fail  | skip)<;>(refine hK.out _ _ (by repeat(first|with_reducible exact Keep.refl _ _ _|with_reducible assumption|with_reducible refine Keep.drew ?_|with_reducible refine Keep.alloc ?_ _|with_reducible refine Keep.below ?_ (by with_reducible assumption))) ?_;clear hK K))))
    (all_goals try simp only [Act.put,lsi,lsz,lss]);all_goals(refine qaf ?_)
    have HT9:=hdQ (TwoG.push (e:=x) HT8.out bel HPZ.out (by rw [HEK.out];exact hown') hgrow (by first|exact hwh|simpa using hwh))
    clear hown' hgrow hwh;go_wp2
    go_roundw
    case rel=>
     have hp1:=HP1.out;refine⟨a2++ [x],b2.take p,?_,TwoG.shrink HT9.out rfl oQ⟩
     have e1:b2=b2.take p++ [x]:=by
      have:=List.take_append_drop p b2;rw [zgx (by omega:p<b2.length),List.drop_of_length_le oQ] at this
      have q:=HX.out;rw [zby (by omega:p<b2.length)] at q
      injection q with q
      rw [<-q]
      exact this.symm
     refine List.Perm.trans ?_ HP.out
     conv=>rhs;rw [e1]
     rw [List.append_assoc]
     exact(List.perm_append_comm (l₁:= [x]) (l₂:=b2.take p)).append_left _
    case measure=>have hl:=qvm HT9.out.ra;rw [zny,List.length_singleton] at hl;simp only [lenG] at hl ⊢;simp;omega
  have hk0:(k:Int)<(m:Int):=oQ
  have hk1:(k:Int)<=1000000:=oQ
  obtain⟨x,hx⟩:∃x,l[k]? =some x:=⟨l[k]'(by rw [HM.out];omega),zby _⟩
  have hr:=HR.out;obtain⟨g,c',hv,hgl,r0,r1,r2⟩:=qcx hr hx;rw [HM.out] at hv;injection hv with hv1 hv2 hv3
  subst hv1 hv3;have hbw:=hb3.trans (hT.bl.mono hz3);obtain⟨hc,hf,hzr⟩:=bc3 hbw;rw [<-hc g _ hgl] at r0 r1 r2;have hgw:g<wr.heap.size:=oQ
  obtain⟨pz,hpz⟩:∃p,(if lf=true then Value.pointer none else gP x.kid)=.pointer p:=by cases lf<;>exact ⟨_,rfl⟩
  rw [hpz] at r2;have HPZ:=hdQ hpz;obtain⟨_,_,Ax,cx,ekx,_⟩:=HKB.out x (zjy hx);rw [ekx] at r0;have HEK:=hdQ ekx
  have hal:a.length+b.length=k:=by
   have:=hp.length_eq;rw [zny,List.length_take,HM.out] at this
   omega
  have HAL:=hdQ hal;obtain⟨Aa,ca,rfl,_,_,_⟩:=qat hT.ra;obtain⟨Ab,cb,rfl,_,_,_⟩:=qat hT.rb
  have hpA:((a++ [x])++b).Perm (l.take (k+1)):=by
   rw [zwy,hx]
   refine List.Perm.trans ?_ (hp.append_right [x])
   simp only [Option.toList_some,List.append_assoc]
   exact(List.perm_append_comm (l₁:= [x]) (l₂:=b)).append_left a
  have hpB:(a++(b++ [x])).Perm (l.take (k+1)):=by
   rw [zwy,hx,<-List.append_assoc]
   exact hp.append_right [x]
  have HPA:=hdQ hpA;have HPB:=hdQ hpB;have HT:=hdQ hT;have HX:=hdQ hx;clear hpA hpB hp hal hr hv2 hx ekx hpz hc hf hT hbw
  by_cases hks:k<s.length
  · obtain⟨sv,hsv⟩:∃x,s[k]? =some x:=⟨s[k]'hks,zby _⟩
    obtain⟨bS,offS,rfl,hbS,hcS⟩:=HY.out.2 oQ
    have s0:=hcS k sv hsv;have hbwr:=HT.out.bl;rw [<-(qbb hbwr).1 bS _ hbS] at s0;have hbS' :bS<wr.heap.size:=zky hbS hbwr.size;have hks0:(k:Int)<(s.length:Int):=oQ
    clear hsv hcS hbwr hks
    cases sv
    · go_wp2_with (at_builtin;go_must (refine qcf _ rfl _ _ 72 rfl 84 i0 (.agg #[.slice none 0 0,.int .i64 0,.pointer none]) 3 40 Tryz.underlying72 hi iz0 iz1 iz2 rfl dE _ _ _ rfl (qa9 (TwoG.ra (TwoG.tr HT.out bel)) (zly _)) _ _ _ _ rfl rfl qjx ?c2 ?c3 ?c4 dE ?_))
      case c2=>simp [Value.oneCell']
      case c3=>have:=HAL.out;unfold maxLen;omega
      case c4=>have:=HAL.out;omega
      intro v' w7 hown' hgrow hwh;have HT7:=hdQ ((TwoG.push (e:=x) HT.out bel HPZ.out (by rw [HEK.out];exact hown') hgrow (by first|exact hwh|simpa using hwh)))
      clear hown' hgrow hwh;go_wp2
      go_roundw
      case rel=>exact ⟨k+1,a++ [x],b,by omega,by go_num,HPA.out,HT7.out⟩
      case measure=>simp [Go.RowKit.intOf];omega
    · go_wp2_with (at_builtin;go_must (refine qcf _ rfl _ _ 72 rfl 84 i0 (.agg #[.slice none 0 0,.int .i64 0,.pointer none]) 3 40 Tryz.underlying72 hi iz0 iz1 iz2 rfl dE _ _ _ rfl (qa9 (TwoG.rb (TwoG.tr HT.out bel)) (zly _)) _ _ _ _ rfl rfl qjx ?c2 ?c3 ?c4 dE ?_))
      case c2=>simp [Value.oneCell']
      case c3=>have:=HAL.out;unfold maxLen;omega
      case c4=>have:=HAL.out;omega
      intro v' w7 hown' hgrow hwh;have HT7:=hdQ ((TwoG.push (e:=x) HT.out.swap bel HPZ.out (by rw [HEK.out];exact hown') hgrow (by first|exact hwh|simpa using hwh)).swap)
      clear hown' hgrow hwh;go_wp2
      go_roundw
      case rel=>exact ⟨k+1,a,b++ [x],by omega,by go_num,HPB.out,HT7.out⟩
      case measure=>simp [Go.RowKit.intOf];omega
  · have hks0:¬ (k:Int)<(s.length:Int):=oQ
    clear hks
    go_wp2_with (at_builtin;go_must (refine qcf _ rfl _ _ 72 rfl 84 i0 (.agg #[.slice none 0 0,.int .i64 0,.pointer none]) 3 40 Tryz.underlying72 hi iz0 iz1 iz2 rfl dE _ _ _ rfl (qa9 (TwoG.ra (TwoG.tr HT.out bel)) (zly _)) _ _ _ _ rfl rfl qjx ?c2 ?c3 ?c4 dE ?_))
    case c2=>simp [Value.oneCell']
    case c3=>have:=HAL.out;unfold maxLen;omega
    case c4=>have:=HAL.out;omega
    intro v' w7 hown' hgrow hwh;have HT7:=hdQ ((TwoG.push (e:=x) HT.out bel HPZ.out (by rw [HEK.out];exact hown') hgrow (by first|exact hwh|simpa using hwh)))
    clear hown' hgrow hwh;go_wp2
    go_roundw
    case rel=>exact ⟨k+1,a++ [x],b,by omega,by go_num,HPA.out,HT7.out⟩
    case measure=>simp [Go.RowKit.intOf];omega
end
end Go.Proofs.YtjopdlmbgidigaaGreat

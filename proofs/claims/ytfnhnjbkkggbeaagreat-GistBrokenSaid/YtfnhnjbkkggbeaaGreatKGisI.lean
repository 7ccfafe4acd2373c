/-gist: parts: entries in two parts.-/
import Derived.Test.YtfnhnjbkkggbeaaGreatKGisP
import Derived.Test.YtfnhnjbkkggbeaaGreatKHeaC
import Derived.Deep.Cut
set_option linter.unusedVariables false
set_option linter.unusedSimpArgs false
set_option maxHeartbeats 4000000
set_option maxRecDepth 20000
namespace Go.Proofs.YtfnhnjbkkggbeaaGreat
open Go Go.RowKit Pg
theorem qv4 {w:World} {b b' size n:Nat} {e:TypeId} {v:Value} {xs:List Value} (h:w.ownsRow b e size v n xs) (hb:∀g,v.ownBlock=some g->b' <=g):w.ownsRow b' e size v n xs:=by
 rcases h.2 with ⟨h0,h1⟩|⟨g,cap,cur,h0,hbg,h1⟩
 · exact⟨h.1,.inl ⟨h0,h1⟩⟩
 · refine⟨h.1,.inr ⟨g,cap,cur,h0,hb g (by rw [h0];rfl),h1⟩⟩
def lenG:Value->Nat
 | .slice _ n _=>n
 | _=>0
theorem qib {w:World} {o:Obj} {a b c:Value} {t:TypeId} (j:Nat) (v:Value) (hj: [a,b,c][j]? =some v):((w.alloc o).alloc (.cells #[a,b,c] t)).cell? ((⟨w.heap.size+1,0,none⟩:Addr).add j)=some v:=by
 have:=qfb (w:=w.alloc o) (a:=a) (b:=b) (c:=c) (t:=t) j v hj
 rwa [show (w.alloc o).heap.size=w.heap.size+1 by simp] at this
theorem qse {w:World} {b size n:Nat} {e:TypeId} {v:Value} {xs:List Value} (h:w.ownsRow b e size v n xs):lenG v=n:=by
 obtain⟨A,c,rfl,_⟩:=qas h
 rfl
structure TwoG (w wr:World) (lf:Bool) (va vb:Value) (a b:List En):Prop where
 ra:wr.ownsRow w.heap.size 96 3 va a.length (qam lf a)
 rb:wr.ownsRow w.heap.size 96 3 vb b.length (qam lf b)
 sep:∀g,va.ownBlock=some g->vb.ownBlock≠some g
 bl:Below w.heap.size w wr
section
variable {w wr W w7:World} {lf:Bool} {va vb v' :Value} {a b:List En}
theorem TwoG.swap (h:TwoG w wr lf va vb a b):TwoG w wr lf vb va b a:=⟨h.rb,h.ra,fun g hg q=>h.sep g q hg,h.bl⟩
theorem TwoG.tr (h:TwoG w wr lf va vb a b) (hW:Below wr.heap.size wr W):TwoG w W lf va vb a b:=⟨qaq h.ra (qag hW) sI,qaq h.rb (qag hW) sI,h.sep,h.bl.trans (hW.mono h.bl.size)⟩
theorem TwoG.push (h:TwoG w wr lf va vb a b) (hW:Below wr.heap.size wr W) {e:En} {x:Value} (hx:(if lf then Value.pointer none else gP e.kid)=x) (hown:w7.ownsRow 0 96 3 v' (a.length+1) (qam lf a++ [e.kv,.int .i64 e.id,x])) (hg:W.grownBy w7 va.ownBlock) (hwh:v'.ownBlock=va.ownBlock\/v'.ownBlock=some W.heap.size):TwoG w w7 lf v' vb (a++ [e]) b:=by
 have h1:=h.tr hW;have hz:=h.bl.size;have hz2:=hW.size;refine⟨?_,qaq h1.rb hg (fun g hg=>h1.sep g hg),?_,h1.bl.grown hg h1.bl.size fun k hk=>(h1.ra.lt k hk).1⟩
 · rw [qcc,zny,List.length_singleton]
   subst hx;refine qv4 hown fun g hg=> ?_
   rcases hwh with q|q
   · rw [q] at hg;exact(h1.ra.lt g hg).1
   · rw [q] at hg;cases hg;omega
 · intro g hg q
   rcases hwh with k|k
   · rw [k] at hg;exact h1.sep g hg q
   · rw [k] at hg
     cases hg
     have:=(h1.rb.lt _ q).2
     omega
theorem TwoG.shrink {g n c:Nat} (h:TwoG w wr lf va (.slice (some ⟨g,0,none⟩) n c) a b) (hn:n=b.length) {m:Nat} (hm:m<=n):TwoG w wr lf va (.slice (some ⟨g,0,none⟩) m c) a (b.take m):=by
 subst hn;refine⟨h.ra,?_,fun g' hg q=>h.sep g' hg q,h.bl⟩
 have:=qlx h.rb hm
 rw [List.length_take,Nat.min_eq_left hm]
 have e:qam lf (b.take m)=(qam lf b).take (m*3):=by
  have e1:qam lf b=qam lf (b.take m)++qam lf (b.drop m):=by rw [<-qcc,List.take_append_drop]
  have e2:(qam lf (b.take m)).length=m*3:=by
   have:∀l:List En,(qam lf l).length=l.length*3:=fun l=>by
    induction l with
    | nil=>rfl
    | cons x r ih=>rw [show qam lf (x::r)=qdz lf x++qam lf r from rfl,zny,ih];simp [qdz];omega
   rw [this,List.length_take,Nat.min_eq_left hm]
  rw [e1,<-e2,List.take_left]
 rw [e]
 exact this
end
theorem TwoG.lower {w w3 wr:World} {lf:Bool} {va vb:Value} {a b:List En} (hb:Below w.heap.size w w3) (h:TwoG w3 wr lf va vb a b):TwoG w wr lf va vb a b:=⟨qbb h.ra hb.size,qbb h.rb hb.size,h.sep,hb.trans (h.bl.mono hb.size)⟩
section
variable {w:World} {own imm:Nat->Prop} {tb mb:Nat} {t:Tr} {H:Nat->Prop} {L:Int->Prop}
theorem qr4 (w:World) (B:Nat) (lf:Bool):w.ownsRow B 96 3 (.slice none 0 0) 0 (qam lf []):=World.ownsRow_nil _ _ _ _
theorem qv2 {C:Cl} {ct:TypeId} {cv:Value} {fM fC fD fU fS:Nat} (hC:ClAt ct cv C fM fC fD fU fS) (h:Lay w own imm tb mb (.iface ct cv) t H L) (lf:Bool) (l:List En) (v:Value) (hrow:w.ownsRow 0 96 3 v l.length (qam lf l)) (hk:∀e∈l,qdf w imm e.kv e.kb) (hfan:t.fan<=1000) (hlen:t.fan/2*2<=l.length) (hmax:l.length<=10000):
 C9 107 #[gP tb,v] w fun e w' =>∃va vb a b,e=.returned (.tuple #[va,vb])/\(a++b).Perm l/\t.fan/2<=a.length/\t.fan/2<=b.length/\TwoG w w' lf va vb a b:=by
 obtain⟨i0,hi,iz0,iz1,iz2⟩:=info_parts Tryz.infoEnG;obtain⟨c0,c1,c2,c3,clt⟩:=h.c0;have HLe:=hdQ (fun W (hW:Below w.heap.size w W)=>qkl (h.tr hW) hfan)
 have HKs:=hdQ (fun W (hW:Below w.heap.size w W)=>qsh lf imm l v W (qaq hrow (qag hW) sI) (fun e he=>(hk e he).kept (qag hW) sI) oQ)
 have h256:∀k∈l.map En.kb,(∀x∈k,x<256)/\k.length<=1000000:=fun k hk' =>by
  obtain⟨e,he,rfl⟩:=zty.1 hk';exact⟨(hk e he).1,(hk e he).2.1⟩
 have hS:=hC.split (l.map En.kb) (by rw [zyy];omega) (fun k hk=>(h256 k hk).1) fun k hk=>(h256 k hk).2
 have HSp:=hdQ (fun W A c (hr:qex W W.heap.size A (l.map En.kb).length (l.map En.kb))=>hS.calls W W.heap.size A c hr (zhy _))
 have mS:=hC.mS;have eS:=hS.enter;have hsl:=hS.len;obtain⟨A,c,rfl,hnc,hAn,hAb⟩:=qas hrow;have HR:=hdQ hrow;have HKB:=hdQ hk;have hml:(l.map En.kb).length=l.length:=zyy _;generalize C.split (l.map En.kb)=s at*;generalize l.map En.kb=K at*;clear h hrow hk h256 hS hC hnc hAn hAb hml;obtain⟨m,hm⟩:∃m,l.length=m:=⟨_,rfl⟩;have HM:=hdQ hm;rw [hm] at hlen hmax HKs;clear hm;obtain⟨q,hq⟩:∃q,t.fan/2=q:=⟨_,rfl⟩
 rw [hq] at hlen HLe ⊢
 have hq5:q<=500:=oQ
 have hsm:(s.length:Int)<=1000000:=oQ
 rw [HM.out]
 clear hq c1 c2 c3
 simp only [gP] at*
 go_enter Tryz.func107,Tryz.ntmps107
 go_wp2_with fail;refine qah [0,1,2,3,4,6,7,5,8,9] kr kr pq ?_
 simp only [zdy,zey,ldz,lds,bare,qak,lcz,lcs,zay]
 repeat' ((try simp only [Act.put,lsi,lsz,lss]);first|(refine lqx ?_)|(refine qab qaa rfl (fun K hK=> ?_);go_simp;((first|(go_at_call 72;(with_reducible refine(HKs.out _ bel).mono ?_);rintro e w1 ⟨s1,rfl,hK1,hb1⟩;obtain⟨A1,c1',rfl,hR1⟩:=qka hK1;clear hK1;obtain⟨hc1,hf1,hz1⟩:=bc3 hb1;(try simp at hz1))|((refine(HSp.out _ _ _ (hR1.tr bel (zhy _))).mono ?_);rintro e w2 ⟨A2,c2',rfl,hy2,hb2⟩;obtain⟨hc2,hf2,hz2⟩:=bc3 hb2;(try simp at hz2))|skip)<;>(refine hK.out _ _ bel ?_;clear hK K))))
 (all_goals try simp only [Act.put,lsi,lsz,lss]);all_goals(refine qad ?_)
 go_wp2_with fail;refine qck (fun w3=>Below w.heap.size w w3/\qlb w3 w3.heap.size A2 s.length s) ⟨bel,q0b (hy2.tr bel (zhy _)) (Below.size (B:=w2.heap.size) bel)⟩ ?_
 rintro w3 ⟨hb3,hy3⟩;have hz3:=hb3.size;have HY:=hdQ hy3;have HB3:=hdQ hb3;clear hy2 hb2 hc2 hf2 hz2 hR1 hb1 hc1 hf1 hz1 hy3 mS eS
 go_loopw [4,5,20] (fun va vb vi wr=>∃(k:Nat) (a b:List En),k<=m/\vi=.int .i64 k/\(a++b).Perm (l.take k)/\TwoG w3 wr lf va vb a b) (fun _ _ vi _=>m-(Go.RowKit.intOf vi).toNat)
 case atStart=>exact ⟨0,[],[],zly _,rfl,by simp,qr4 _ _ _,qr4 _ _ _,by simp [Value.ownBlock],bel⟩
 case round=>
  obtain⟨k,a,b,hkm,rfl,hp,hT⟩:=hrel
  by_cases hlt:k<m
  case neg=>
   obtain rfl:m=k:=oQ
   have hp' :(a++b).Perm l:=by rw [zmy (by rw [HM.out];omega)] at hp;exact hp
   have HP:=hdQ hp';have HT:=hdQ hT;clear hp hp' hT;go_wp2_with fail
   go_loopw [4,5] (fun va vb wr=>∃a b:List En,(a++b).Perm l/\TwoG w3 wr lf va vb a b) (fun va _ _=>q-lenG va)
   case atStart=>exact ⟨a,b,HP.out,HT.out⟩
   case round=>
    clear HP HT;obtain⟨a2,b2,hp,hT⟩:=hrel;have hbw:=HB3.out.trans (hT.bl.mono hz3)
    have hal:a2.length+b2.length=m:=by
     have:=hp.length_eq;rw [zny,HM.out] at this;exact this
    obtain⟨Aa,ca,rfl,_,_,_⟩:=qas hT.ra
    by_cases hlt2:a2.length<q
    case neg=>
     have hlt3:¬ (a2.length:Int)<(q:Int):=oQ
     have HT:=hdQ hT;have HP:=hdQ hp;clear hT hp
     go_wp2_with (go_at_call 45;(with_reducible refine(HLe.out _ bel).mono ?_);rintro e w8 ⟨rfl,hb8⟩)
     refine qck (fun w8' =>TwoG w3 w8' lf (.slice Aa a2.length ca) _ a2 b2) (HT.out.tr bel) ?_
     clear hb8 hbw;rintro w8' hT8;have hqa:q<=a2.length:=oQ
     go_loopw [4,5] (fun va vb wr=>∃a b:List En,(a++b).Perm l/\q<=a.length/\TwoG w3 wr lf va vb a b) (fun _ vb _=>q-lenG vb)
     case atStart=>exact ⟨a2,b2,HP.out,hqa,hT8⟩
     case round=>
      clear HP HT hT8 hqa hal hlt2 hlt3;obtain⟨a3,b3,hp,hqa,hT⟩:=hrel;have hbw:=HB3.out.trans (hT.bl.mono hz3)
      have hal:a3.length+b3.length=m:=by
       have:=hp.length_eq;rw [zny,HM.out] at this;exact this
      obtain⟨Ab,cb,rfl,_,_,_⟩:=qas hT.rb
      by_cases hlt2:b3.length<q
      case neg=>
       have hlt3:¬ (b3.length:Int)<(q:Int):=oQ
       obtain⟨Aa,ca,rfl,_,_,_⟩:=qas hT.ra;have HT:=hdQ hT;have HP:=hdQ hp;have hqb:q<=b3.length:=oQ
       clear hT hp
       go_wp2_with (go_at_call 45;(with_reducible refine(HLe.out _ bel).mono ?_);rintro e w8 ⟨rfl,hb8⟩)
       go_ret2
       exact⟨_,_,a3,b3,rfl,HP.out,hqa,hqb,TwoG.lower HB3.out (HT.out.tr bel)⟩
      have hlt3:(b3.length:Int)<(q:Int):=oQ
      obtain⟨p,hp1⟩:∃p,a3.length=p+1:=⟨a3.length-1,by omega⟩
      obtain⟨x,hx⟩:∃x,a3[p]? =some x:=⟨a3[p]'oQ,zby _⟩
      obtain⟨g,ca,rfl,_,_,_,_⟩:=qcf (qbb hT.ra (zly _)) hx
      have hcn:a3.length<=ca:=by
       obtain⟨_,_,e,h1,_⟩:=qas hT.ra;injection e with _ _ e
       omega
      have HT:=hdQ hT;have HP:=hdQ hp;have HX:=hdQ hx;have hidx:((a3.length:Nat):Int)-1=(p:Int):=oQ
      have hpl:(p:Int)<(a3.length:Int):=oQ
      have hpc:(p:Int)<=(ca:Int):=oQ
      have hpw:IntKind.i64.wrap (p:Int)=(p:Int):=IntWalk.i64_in _ ⟨by omega,by omega⟩
      have hcc:p<=ca:=oQ
      have HP1:=hdQ hp1;clear hT hp hx hp1
      go_wp2_with (go_at_call 45;(with_reducible refine(HLe.out _ bel).mono ?_);rintro e w8 ⟨rfl,hb8⟩)
      have HT8:=hdQ (HT.out.tr hb8);obtain⟨g',c',hv,hgl,r0,r1,r2⟩:=qcf (qbb HT8.out.ra (zly _)) HX.out;injection hv with hv1 hv2 hv3
      injection hv1 with hv1
      injection hv1 with hv1
      subst hv1 hv3;obtain⟨pz,hpz⟩:∃p,(if lf=true then Value.pointer none else gP x.kid)=.pointer p:=by cases lf<;>exact ⟨_,rfl⟩
      rw [hpz] at r2;have HPZ:=hdQ hpz;obtain⟨_,_,Ax,cx,ekx,_⟩:=HKB.out x (HP.out.mem_iff.1 (List.mem_append.2 (.inl (zjy HX.out))));rw [ekx] at r0;have HEK:=hdQ ekx;clear ekx hpz hv2 hbw hb8;refine qe5 (w3.heap.size) [g] [0,1,2,3,4,5,6,7,8,9,10,11,12,13,14,15] kr kr pq ?_
      simp only [zdy,zey,ldz,lds,bare,qak,lcz,lcs,zay]
      repeat' ((try simp only [Act.put,lsi,lsz,lss]);first|(refine qa8 (v:= ?_) qaa rfl ?_ ?_;rotate_left;focus(intro wq hq;obtain⟨hcq,hfq⟩:=q1u hq;go_simp;try with_reducible rfl))|(refine qab qaa rfl (fun K hK=> ?_);(refine qcl _ _ _ 77 rfl 96 i0 (.agg #[.slice none 0 0,.int .i64 0,.pointer none]) 3 40 Tryz.underlying77 hi iz0 iz1 iz2 rfl dE _ _ _ rfl (qbb (TwoG.rb (TwoG.tr HT8.out bel)) (zly _)) _ _ _ _ rfl rfl qfb ?_ ?_ ?_ dE ?_);(focus(simp [Value.oneCell']));(focus(unfold maxLen;omega));(focus omega);intro v' w9 hown' hgrow hwh;have hkp:Keep w3.heap.size [g] w8 w9:=Keep.grown (by repeat(first|with_reducible exact Keep.refl _ _ _|with_reducible refine Keep.drew ?_|with_reducible refine Keep.alloc ?_ _)) hgrow (fun k hk=>⟨(TwoG.rb HT8.out).lt k hk |>.1,fun q=>by rw [zhx] at q;subst q;exact HT8.out.sep _ rfl hk⟩);refine hK.out _ _ (by repeat(first|with_reducible exact Keep.refl _ _ _|with_reducible assumption|with_reducible refine Keep.drew ?_|with_reducible refine Keep.alloc ?_ _|with_reducible refine Keep.below ?_ (by with_reducible assumption))) ?_;clear hK K)|(refine qab qaa rfl (fun K hK=> ?_);go_simp;((first|fail  | skip)<;>(refine hK.out _ _ (by repeat(first|with_reducible exact Keep.refl _ _ _|with_reducible assumption|with_reducible refine Keep.drew ?_|with_reducible refine Keep.alloc ?_ _|with_reducible refine Keep.below ?_ (by with_reducible assumption))) ?_;clear hK K))))
      (all_goals try simp only [Act.put,lsi,lsz,lss]);all_goals(refine qad ?_)
      have HT9:=hdQ ((TwoG.push (e:=x) HT8.out.swap bel HPZ.out (by rw [HEK.out];exact hown') hgrow (by first|exact hwh|simpa using hwh)).swap)
      clear hown' hgrow hwh;go_wp2
      go_roundw
      case rel=>
       have hp1:=HP1.out;refine⟨a3.take p,b3++ [x],?_,by rw [List.length_take];omega,TwoG.swap (TwoG.shrink HT9.out.swap rfl oQ)⟩
       have e1:a3=a3.take p++ [x]:=by
        have:=List.take_append_drop p a3;rw [zgx (by omega:p<a3.length),List.drop_of_length_le oQ] at this
        have q:=HX.out;rw [zby (by omega:p<a3.length)] at q
        injection q with q
        rw [<-q]
        exact this.symm
       refine List.Perm.trans ?_ HP.out
       conv=>rhs;rw [e1]
       rw [List.append_assoc]
       exact(List.perm_append_comm (l₁:=b3) (l₂:= [x])).append_left _
      case measure=>have hl:=qse HT9.out.rb;rw [zny,List.length_singleton] at hl;simp only [lenG] at hl ⊢;simp;omega
    have hlt3:(a2.length:Int)<(q:Int):=oQ
    obtain⟨p,hp1⟩:∃p,b2.length=p+1:=⟨b2.length-1,by omega⟩
    obtain⟨x,hx⟩:∃x,b2[p]? =some x:=⟨b2[p]'oQ,zby _⟩
    obtain⟨g,cb,rfl,_,_,_,_⟩:=qcf (qbb hT.rb (zly _)) hx
    have hcn:b2.length<=cb:=by
     obtain⟨_,_,e,h1,_⟩:=qas hT.rb;injection e with _ _ e
     omega
    have HT:=hdQ hT;have HP:=hdQ hp;have HX:=hdQ hx;have hidx:((b2.length:Nat):Int)-1=(p:Int):=oQ
    have hpl:(p:Int)<(b2.length:Int):=oQ
    have hpc:(p:Int)<=(cb:Int):=oQ
    have hpw:IntKind.i64.wrap (p:Int)=(p:Int):=IntWalk.i64_in _ ⟨by omega,by omega⟩
    have hcc:p<=cb:=oQ
    have HP1:=hdQ hp1;clear hT hp hx hp1
    go_wp2_with (go_at_call 45;(with_reducible refine(HLe.out _ bel).mono ?_);rintro e w8 ⟨rfl,hb8⟩)
    have HT8:=hdQ (HT.out.tr hb8);obtain⟨g',c',hv,hgl,r0,r1,r2⟩:=qcf (qbb HT8.out.rb (zly _)) HX.out;injection hv with hv1 hv2 hv3
    injection hv1 with hv1
    injection hv1 with hv1
    subst hv1 hv3;obtain⟨pz,hpz⟩:∃p,(if lf=true then Value.pointer none else gP x.kid)=.pointer p:=by cases lf<;>exact ⟨_,rfl⟩
    rw [hpz] at r2;have HPZ:=hdQ hpz;obtain⟨_,_,Ax,cx,ekx,_⟩:=HKB.out x (HP.out.mem_iff.1 (List.mem_append.2 (.inr (zjy HX.out))));rw [ekx] at r0;have HEK:=hdQ ekx;clear ekx hpz hv2 hbw hb8;refine qe5 (w3.heap.size) [g] [0,1,2,3,4,5,6,9,10,11,12,13,7,8,14,15] kr kr pq ?_
    simp only [zdy,zey,ldz,lds,bare,qak,lcz,lcs,zay]
    repeat' ((try simp only [Act.put,lsi,lsz,lss]);first|(refine qa8 (v:= ?_) qaa rfl ?_ ?_;rotate_left;focus(intro wq hq;obtain⟨hcq,hfq⟩:=q1u hq;go_simp;try with_reducible rfl))|(refine qab qaa rfl (fun K hK=> ?_);(refine qcl _ _ _ 77 rfl 96 i0 (.agg #[.slice none 0 0,.int .i64 0,.pointer none]) 3 40 Tryz.underlying77 hi iz0 iz1 iz2 rfl dE _ _ _ rfl (qbb (TwoG.ra (TwoG.tr HT8.out bel)) (zly _)) _ _ _ _ rfl rfl qfb ?_ ?_ ?_ dE ?_);(focus(simp [Value.oneCell']));(focus(unfold maxLen;omega));(focus omega);intro v' w9 hown' hgrow hwh;have hkp:Keep w3.heap.size [g] w8 w9:=Keep.grown (by repeat(first|with_reducible exact Keep.refl _ _ _|with_reducible refine Keep.drew ?_|with_reducible refine Keep.alloc ?_ _)) hgrow (fun k hk=>⟨(TwoG.ra HT8.out).lt k hk |>.1,fun q=>by rw [zhx] at q;subst q;exact HT8.out.sep _ hk rfl⟩);refine hK.out _ _ (by repeat(first|with_reducible exact Keep.refl _ _ _|with_reducible assumption|with_reducible refine Keep.drew ?_|with_reducible refine Keep.alloc ?_ _|with_reducible refine Keep.below ?_ (by with_reducible assumption))) ?_;clear hK K)|(refine qab qaa rfl (fun K hK=> ?_);go_simp;((first|fail  | skip)<;>(refine hK.out _ _ (by repeat(first|with_reducible exact Keep.refl _ _ _|with_reducible assumption|with_reducible refine Keep.drew ?_|with_reducible refine Keep.alloc ?_ _|with_reducible refine Keep.below ?_ (by with_reducible assumption))) ?_;clear hK K))))
    (all_goals try simp only [Act.put,lsi,lsz,lss]);all_goals(refine qad ?_)
    have HT9:=hdQ (TwoG.push (e:=x) HT8.out bel HPZ.out (by rw [HEK.out];exact hown') hgrow (by first|exact hwh|simpa using hwh))
    clear hown' hgrow hwh;go_wp2
    go_roundw
    case rel=>
     have hp1:=HP1.out;refine⟨a2++ [x],b2.take p,?_,TwoG.shrink HT9.out rfl oQ⟩
     have e1:b2=b2.take p++ [x]:=by
      have:=List.take_append_drop p b2;rw [zgx (by omega:p<b2.length),List.drop_of_length_le oQ] at this
      have q:=HX.out;rw [zby (by omega:p<b2.length)] at q
      injection q with q
      rw [<-q]
      exact this.symm
     refine List.Perm.trans ?_ HP.out
     conv=>rhs;rw [e1]
     rw [List.append_assoc]
     exact(List.perm_append_comm (l₁:= [x]) (l₂:=b2.take p)).append_left _
    case measure=>have hl:=qse HT9.out.ra;rw [zny,List.length_singleton] at hl;simp only [lenG] at hl ⊢;simp;omega
  have hk0:(k:Int)<(m:Int):=oQ
  have hk1:(k:Int)<=1000000:=oQ
  obtain⟨x,hx⟩:∃x,l[k]? =some x:=⟨l[k]'(by rw [HM.out];omega),zby _⟩
  have hr:=HR.out;obtain⟨g,c',hv,hgl,r0,r1,r2⟩:=qcf hr hx;rw [HM.out] at hv;injection hv with hv1 hv2 hv3
  subst hv1 hv3;have hbw:=hb3.trans (hT.bl.mono hz3);obtain⟨hc,hf,hzr⟩:=bc3 hbw;rw [<-hc g _ hgl] at r0 r1 r2;have hgw:g<wr.heap.size:=oQ
  obtain⟨pz,hpz⟩:∃p,(if lf=true then Value.pointer none else gP x.kid)=.pointer p:=by cases lf<;>exact ⟨_,rfl⟩
  rw [hpz] at r2;have HPZ:=hdQ hpz;obtain⟨_,_,Ax,cx,ekx,_⟩:=HKB.out x (zjy hx);rw [ekx] at r0;have HEK:=hdQ ekx
  have hal:a.length+b.length=k:=by
   have:=hp.length_eq;rw [zny,List.length_take,HM.out] at this
   omega
  have HAL:=hdQ hal;obtain⟨Aa,ca,rfl,_,_,_⟩:=qas hT.ra;obtain⟨Ab,cb,rfl,_,_,_⟩:=qas hT.rb
  have hpA:((a++ [x])++b).Perm (l.take (k+1)):=by
   rw [zwy,hx]
   refine List.Perm.trans ?_ (hp.append_right [x])
   simp only [Option.toList_some,List.append_assoc]
   exact(List.perm_append_comm (l₁:= [x]) (l₂:=b)).append_left a
  have hpB:(a++(b++ [x])).Perm (l.take (k+1)):=by
   rw [zwy,hx,<-List.append_assoc]
   exact hp.append_right [x]
  have HPA:=hdQ hpA;have HPB:=hdQ hpB;have HT:=hdQ hT;have HX:=hdQ hx;clear hpA hpB hp hal hr hv2 hx ekx hpz hc hf hT hbw
  by_cases hks:k<s.length
  · obtain⟨sv,hsv⟩:∃x,s[k]? =some x:=⟨s[k]'hks,zby _⟩
    obtain⟨bS,offS,rfl,hbS,hcS⟩:=HY.out.2 oQ
    have s0:=hcS k sv hsv;have hbwr:=HT.out.bl;rw [<-(qa1 hbwr).1 bS _ hbS] at s0;have hbS' :bS<wr.heap.size:=zky hbS hbwr.size;have hks0:(k:Int)<(s.length:Int):=oQ
    clear hsv hcS hbwr hks
    cases sv
    · go_wp2_with (at_builtin;go_must (refine qb4 _ rfl _ _ 77 rfl 96 i0 (.agg #[.slice none 0 0,.int .i64 0,.pointer none]) 3 40 Tryz.underlying77 hi iz0 iz1 iz2 rfl dE _ _ _ rfl (qbb (TwoG.ra (TwoG.tr HT.out bel)) (zly _)) _ _ _ _ rfl rfl qib ?c2 ?c3 ?c4 dE ?_))
      case c2=>simp [Value.oneCell']
      case c3=>have:=HAL.out;unfold maxLen;omega
      case c4=>have:=HAL.out;omega
      intro v' w7 hown' hgrow hwh;have HT7:=hdQ ((TwoG.push (e:=x) HT.out bel HPZ.out (by rw [HEK.out];exact hown') hgrow (by first|exact hwh|simpa using hwh)))
      clear hown' hgrow hwh;go_wp2
      go_roundw
      case rel=>exact ⟨k+1,a++ [x],b,by omega,by go_num,HPA.out,HT7.out⟩
      case measure=>simp [Go.RowKit.intOf];omega
    · go_wp2_with (at_builtin;go_must (refine qb4 _ rfl _ _ 77 rfl 96 i0 (.agg #[.slice none 0 0,.int .i64 0,.pointer none]) 3 40 Tryz.underlying77 hi iz0 iz1 iz2 rfl dE _ _ _ rfl (qbb (TwoG.rb (TwoG.tr HT.out bel)) (zly _)) _ _ _ _ rfl rfl qib ?c2 ?c3 ?c4 dE ?_))
      case c2=>simp [Value.oneCell']
      case c3=>have:=HAL.out;unfold maxLen;omega
      case c4=>have:=HAL.out;omega
      intro v' w7 hown' hgrow hwh;have HT7:=hdQ ((TwoG.push (e:=x) HT.out.swap bel HPZ.out (by rw [HEK.out];exact hown') hgrow (by first|exact hwh|simpa using hwh)).swap)
      clear hown' hgrow hwh;go_wp2
      go_roundw
      case rel=>exact ⟨k+1,a,b++ [x],by omega,by go_num,HPB.out,HT7.out⟩
      case measure=>simp [Go.RowKit.intOf];omega
  · have hks0:¬ (k:Int)<(s.length:Int):=oQ
    clear hks
    go_wp2_with (at_builtin;go_must (refine qb4 _ rfl _ _ 77 rfl 96 i0 (.agg #[.slice none 0 0,.int .i64 0,.pointer none]) 3 40 Tryz.underlying77 hi iz0 iz1 iz2 rfl dE _ _ _ rfl (qbb (TwoG.ra (TwoG.tr HT.out bel)) (zly _)) _ _ _ _ rfl rfl qib ?c2 ?c3 ?c4 dE ?_))
    case c2=>simp [Value.oneCell']
    case c3=>have:=HAL.out;unfold maxLen;omega
    case c4=>have:=HAL.out;omega
    intro v' w7 hown' hgrow hwh;have HT7:=hdQ ((TwoG.push (e:=x) HT.out bel HPZ.out (by rw [HEK.out];exact hown') hgrow (by first|exact hwh|simpa using hwh)))
    clear hown' hgrow hwh;go_wp2
    go_roundw
    case rel=>exact ⟨k+1,a++ [x],b,by omega,by go_num,HPA.out,HT7.out⟩
    case measure=>simp [Go.RowKit.intOf];omega
end
theorem q1x {K:Act->World->Prop} {a:Act} {w:World} (R:World->Prop) (h:R w) (k:∀w2,R w2->K a w2):K a w:=k w h
section
variable {w W:World} {own imm:Nat->Prop} {tb mb:Nat} {cl:Value} {t:Tr} {H:Nat->Prop} {L:Int->Prop}
theorem Lay.keyNew (h:Lay w own imm tb mb cl t H L) (hW:Below w.heap.size w W) {kv:Value} {kb:List Nat} {B:Nat} (ho:W.ownsRow B 5 1 kv kb.length (qap kb)) (hB:w.heap.size<=B) (h1:∀x∈kb,x<256) (h2:kb.length<=1000000):
 Lay W own (fun k=>imm k\/kv.ownBlock=some k) tb mb cl t H L/\qdf W (fun k=>imm k\/kv.ownBlock=some k) kv kb/\Grow w W own imm own (fun k=>imm k\/kv.ownBlock=some k):=by
 have hL:=h.tr hW;refine⟨hL.more (fun _ q=>q) (fun _ q=> .inl q) ?_ ?_,ql8 ho h1 h2 fun g q=> .inr q,(TurnF.refl own w).below hW,fun _ q=> .inl q,?_,fun _ q=>q,fun _ q=> .inl q⟩
 · intro b hb q
   rcases q with q|q
   · exact h.sep b hb q
   · have:=(ho.lt b q).1
     have:=h.lim b (.inl hb)
     omega
 · intro b hb
   rcases hb with q|q|q
   · exact hL.lim b (.inl q)
   · exact hL.lim b (.inr q)
   · exact(ho.lt b q).2
 · intro b q
   rcases q with q|q
   · exact .inl q
   · have:=(ho.lt b q).1
     exact .inr oQ
theorem Lay.refreshed (h:Lay w own imm tb mb cl t H L) (hW:Below w.heap.size w W) {u l g m c i:Nat} (hul:t.lv u=some (l+1)) (hH:¬ H u) (hsl:t.sl u=.slice (some ⟨g,0,none⟩) m c) (hi:i<(t.es u).length) {kv:Value} {kb:List Nat} {B:Nat} (ho:W.ownsRow B 5 1 kv kb.length (qap kb)) (hB:w.heap.size<=B) (h1:∀x∈kb,x<256) (h2:kb.length<=1000000):
 ∃imm',Lay (W.setCell ⟨g,i*3,none⟩ kv) own imm' tb mb cl (qdc t u i kv kb) H L/\Grow w (W.setCell ⟨g,i*3,none⟩ kv) own imm own imm' :=by
 obtain⟨hL,hK,hG⟩:=h.keyNew hW ho hB h1 h2;have hg0:(t.sl u).ownBlock=some g:=by rw [hsl];rfl
 have hrow:=hL.row u _ hul hH;have hown:=h.oR u _ g hul hH hg0;refine⟨_,hL.rowTurn (es:=(t.es u).modify i fun e=>{e with kv:=kv,kb:=kb}) hul hH hg0 (qb2 W ⟨g,i*3,none⟩ kv) ?_ ?_,hG.trans (Grow.of_turn ((TurnF.refl own W).set_ (p:=⟨g,i*3,none⟩) (.inl hown) kv))⟩
 · have hm:m=(t.es u).length:=by
    obtain⟨_,_,e,_⟩:=qas hrow;rw [hsl] at e;injection e with _ e _
   rw [hsl] at hrow ⊢
   rw [<-hm] at hrow;have:=qr2 hrow (show i*3<m*3 by omega) kv
   rw [qt7 kv kb,if_pos hi] at this
   rw [List.length_modify,<-hm]
   exact this
 · intro e he
   rcases mem_modify he with ⟨y,_,rfl⟩|⟨j,_,hj⟩
   · exact hK
   · exact hL.ekey u _ e hul (zjy hj)
end
section
variable {w:World} {own imm:Nat->Prop} {tb mb:Nat} {t:Tr} {L L' :Int->Prop}
theorem Lay.rowAt {cl:Value} {H:Nat->Prop} (h:Lay w own imm tb mb cl t H L) {u l:Nat} (hul:t.lv u=some l) (hH:¬ H u) {e:En} (he:e∈t.es u):∃g c cur,t.sl u=.slice (some ⟨g,0,none⟩) (t.es u).length c/\(t.es u).length<=c/\Blk w g 96 cur:=by
 have hrow:=h.row u l hul hH;obtain⟨j,hj⟩:=List.mem_iff_getElem?.1 he;obtain⟨g,c,hv,_⟩:=qcf hrow hj;obtain⟨cur,hb⟩:=qij hrow (by rw [hv];rfl)
 obtain⟨_,_,e,hc,_⟩:=qas hrow;rw [hv] at e;injection e with _ _ e
 exact⟨g,c,cur,hv,by omega,hb⟩
theorem qj9 {C:Cl} {ct:TypeId} {cv:Value} {fM fC fD fU fS:Nat} (hC:ClAt ct cv C fM fC fD fU fS) (h:Lay w own imm tb mb (.iface ct cv) t (fun _=>False) L) (hs:Shape t L') {n l:Nat} (hn:t.lv n=some l) (hk:Keyed C.un t (· =n)) (hlen:∀b l,t.lv b=some l->(t.es b).length<=1000):
 C9 75 #[gP tb,gP n] w fun e w' =>e=.returned (.tuple #[])/\∃t' imm',Pg.Alike t t' /\Keyed C.un t' (fun _=>False)/\Lay w' own imm' tb mb (.iface ct cv) t' (fun _=>False) L/\Grow w w' own imm own imm' :=by
 obtain⟨D,hD⟩:=hs.deep;have HD:=hdQ hD;have HS:=hdQ hs;have HLEN:=hdQ hlen;have HPl:=hdQ (fun W imm' (t' :Tr) n' l' u' (hL:Lay W own imm' tb mb (.iface ct cv) t' (fun _=>False) L) (hn' :t'.lv n' =some l') (hu' :t'.up n' =some u') (hul:t'.lv u' =some (l' +1)) hex hkk hm=>qih hL hn' hu' hul hex hkk (fun q=>q) hm)
 have HUn:=hdQ (fun W imm' (t' :Tr) n' l' (hL:Lay W own imm' tb mb (.iface ct cv) t' (fun _=>False) L) (hn' :t'.lv n' =some l') hm=>qgk hC hL hn' (fun q=>q) hm)
 have HFm:=hdQ hC.formU;have HN:=hdQ hn;have HK:=hdQ hk;have HL:=hdQ h;clear hC h hs hn hk hlen hD
 simp only [gP] at*
 go_enter Tryz.func75,Tryz.ntmps75
 go_wp2_with fail
 go_loopw [1] (fun vn wr=>∃n' l' t' imm',vn=.pointer (some ⟨n',0,none⟩)/\t'.lv n' =some l' /\Pg.Alike t t' /\Keyed C.un t' (· =n')/\Lay wr own imm' tb mb (.iface ct cv) t' (fun _=>False) L/\Grow w wr own imm own imm') (fun vn _=>D-lvOf t vn)
 case atStart=>exact ⟨n,l,t,imm,rfl,HN.out,Pg.Alike.refl t,HK.out,HL.out,Grow.refl _ _ _⟩
 case round=>
  clear HN HK HL;obtain⟨n',l',t',imm',rfl,hn',ha,hk,hL,hG⟩:=hrel;have hs' :=HS.out.alike ha;obtain⟨n0,n1,n2,nlt⟩:=hL.n0 hn'
  cases hup:t'.up n' with
  | none=>
    rw [hup] at n0;simp only [gO] at n0;have HL:=hdQ hL;have HG:=hdQ hG;have HA:=hdQ ha;have HK:=hdQ (ql7 hs' hk hup);clear hL hG ha hk hs' hup hn';go_wp2_with fail
    go_end0
    exact⟨rfl,t',imm',HA.out,HK.out,HL.out,HG.out⟩
  | some u=>
    obtain⟨hul,e0,he0,hek0⟩:=hs'.up n' l' u hn' hup;rw [hup] at n0;simp only [gO,gP] at n0;obtain⟨u0,u1,u2,ult⟩:=hL.n0 hul;obtain⟨g,c,cur,hsl,hmc,hBg⟩:=hL.rowAt hul (fun q=>q) he0
    rw [hsl] at u2;have fR:=hBg.frozen;have hgl:=hBg.lt;have hlt:∀b l,t'.lv b=some l->(t'.es b).length<=1000:=fun b l hb=>by rw [ha.len];exact HLEN.out b l (by rw [<-ha.lv];exact hb)
    have hm:=hlt u _ hul;have HPl2:=hdQ (fun W (hW:Below wr.heap.size wr W)=>HPl.out W imm' t' n' l' u (hL.tr hW) hn' hup hul ⟨e0,he0,hek0⟩ (fun e he=>⟨_,(hs'.kid u l' e hul he).1⟩) oQ)
    have HUn2:=hdQ (fun W (hW:Below wr.heap.size wr W)=>HUn.out W imm' t' n' l' (hL.tr hW) hn' (by have:=hlt n' _ hn';omega))
    have hkk:∀k∈(t'.es n').map En.kb,(∀x∈k,x<256)/\k.length<=1000000:=fun k hk' =>by
     obtain⟨e,he,rfl⟩:=zty.1 hk';have:=hL.ekey n' _ e hn' he;exact⟨this.1,this.2.1⟩
    have hform:=HFm.out _ (fun k hk=>(hkk k hk).1) (fun k hk=>(hkk k hk).2)
    have HF:=hdQ hform;have HRow:=hdQ (hL.row u _ hul (fun q=>q))
    have HSL:=hdQ hsl;obtain⟨m,hmm⟩:∃m,(t'.es u).length=m:=⟨_,rfl⟩;have HM:=hdQ hmm;rw [hmm] at u2 hmc hm;have HREF:=hdQ (fun W (i:Nat) kv (hW:Below wr.heap.size wr W) (hi:i<m) (ho:W.ownsRow wr.heap.size 5 1 kv (C.un ((t'.es n').map En.kb)).length (qap (C.un ((t'.es n').map En.kb))))=>hL.refreshed hW hul (fun q=>q) (by rw [hsl,hmm]) (by rw [hmm];exact hi) ho (zhy _) hform.1 hform.2)
    have HST:=hdQ (fun(i:Nat) x kv (hx:(t'.es u)[i]? =some x) (hxk:x.kid=n')=>ql6 (U:=C.un) hs' hk kv hn' hup hx hxk)
    have HA:=hdQ (fun(i:Nat) kv kb=>ha.trans (qi7 (i:=i) kv kb hul))
    have HG:=hdQ hG;have HN:=hdQ hn';have HUL:=hdQ hul;have HUP:=hdQ hup;have HTL:Hid (t.lv n' =some l' /\t.lv u=some (l' +1)):=⟨by rw [<-ha.lv];exact hn',by rw [<-ha.lv];exact hul⟩
    clear hL hG ha hk hs' hup hn' hul he0 hek0 hsl hBg hlt hkk hform hmm;generalize C.un ((t'.es n').map En.kb)=U at*;go_wp2_with fail;refine qax [0,1,2,3,4,5,6,7,9,10,8,11,12,13] [14] kr kr pq ?_
    simp only [zdy,zey,ldz,lds,bare,qak,lcz,lcs,zay,qc0,Option.isNone_none,Bool.and_true,Bool.true_and,Bool.false_and,Bool.and_self]
    repeat((try simp only [Act.put,lsi,lsz,lss]);first|(refine qbh (v:= ?_) qaa rfl ?_ ?_;rotate_left;focus(intro wq;go_simp;try with_reducible rfl))|(refine qa6 (v:= ?_) qaa rfl ?_ ?_;rotate_left;focus(intro wq hq;obtain⟨hcq,hfq⟩:=qa1 hq;go_simp;try with_reducible rfl))|(refine qa7 qaa rfl (fun K hK=> ?_);go_simp;((first|(go_at_call 46;(with_reducible refine(HPl2.out _ bel).mono ?_);rintro e w5 ⟨i,x,hx,hxk,rfl,hb5⟩;obtain⟨hc5,hf5,hz5⟩:=bc3 hb5;(try simp at hz5);have hg5:g<w5.heap.size:=oQ;have HX:=hdQ hx;have HXK:=hdQ hxk;have hil:i<m:=(by have:=(zsy.1 hx).1;rw [HM.out] at this;exact this);have hil0:(i:Int)<(m:Int):=oQ;have hrw:=HRow.out;obtain⟨g',c',hv',_,r0,_,_⟩:=qcf hrw hx;rw [HSL.out] at hv';injection hv' with hv1 hv2 hv3;injection hv1 with hv1;injection hv1 with hv1;subst hv1;have r5:w5.cell? ⟨g,i*3,none⟩=some x.kv:=(hc5 g _ (by simpa using hgl)).trans (by simpa using r0);have f5:w5.frozen? ⟨g,i*3,none⟩=false:=(hf5 g _ (by simpa using hgl)).trans (by simpa using fR _);clear hv2 hv3 hrw hx hxk)|(go_at_call 48;(with_reducible refine(HUn2.out _ bel).mono ?_);rintro e w6 ⟨v6,rfl,ho6,hb6⟩;obtain⟨A6,c6,rfl,_,_,_,_⟩:=qa0 ho6;have HO6:=hdQ ho6;clear ho6;obtain⟨hc6,hf6,hz6⟩:=bc3 hb6;(try simp at hz6);have r6:w6.cell? ⟨g,i*3,none⟩=some x.kv:=(hc6 g _ (by simpa using hg5)).trans (by simpa using r5);have f6:w6.frozen? ⟨g,i*3,none⟩=false:=(hf6 g _ (by simpa using hg5)).trans (by simpa using f5))|skip)<;>(refine hK.out _ _ bel ?_;clear hK K))))
    (all_goals try simp only [Act.put,lsi,lsz,lss])
    refine qbs ?_;refine qao (fun K hK=> ?_)
    go_simp
    refine q1x (K:=K) (fun w7=>∃imm7,Lay w7 own imm7 tb mb (.iface ct cv) (qdc t' u i (.slice A6 U.length c6) U) (fun _=>False) L/\Grow wr w7 own imm' own imm7) ?_ ?_;(focus(refine HREF.out _ i (.slice A6 U.length c6) ?_ hil ?_;(focus(exact bel));(focus(refine qbb (qaq HO6.out (qag ?_) sI) (by(try simp);omega);exact bel))));rintro w7 ⟨imm7,hL7,hG7⟩
    refine hK.out _ _ ?_;clear hK K
    (try simp only [Act.put,lsi,lsz,lss])
    refine qbr ?_;obtain⟨n0,n1,n2,nlt⟩:=hL7.n0 (show (qdc t' u i (.slice A6 U.length c6) U).lv n' =some l' from HN.out)
    rw [show (qdc t' u i (.slice A6 U.length c6) U).up n' =some u from HUP.out] at n0
    simp only [gO,gP] at n0;have HL7:=hdQ hL7;have HG7:=hdQ hG7;clear hL7 hG7 r0 r5 f5 r6 f6 hc5 hf5 hc6 hf6 hb5 hb6;go_wp2_with fail
    go_roundw
    case rel=>exact ⟨u,l' +1,qdc t' u i (.slice A6 U.length c6) U,imm7,rfl,HUL.out,HA.out i _ _,HST.out i x _ HX.out HXK.out,HL7.out,HG.out.trans HG7.out⟩
    case measure=>
     have h1:=HTL.out.1;have h2:=HTL.out.2;have h3:=HD.out _ _ h2
     simp only [lvOf,h1,h2,Option.getD_some]
     omega
end
theorem qof {F:Nat->Prop} {a b:World} {base size m:Nat} {e:TypeId} {v:Value} {xs:List Value} (h:a.ownsRow base e size v m xs) (ht:TurnF F a b) (hF:∀g,v.ownBlock=some g->¬ F g):b.ownsRow base e size v m xs:=by
 refine⟨h.1,?_⟩
 rcases h.2 with q|⟨g,cap,cur,rfl,r1,r2,r3⟩
 · exact .inl q
 · exact .inr ⟨g,cap,cur,rfl,r1,(ht.block g (zqy.1 r2).1 (hF g rfl)).trans r2,r3⟩
section
variable {w W w1:World} {own imm:Nat->Prop} {tb mb:Nat} {cl:Value} {t:Tr} {H:Nat->Prop} {L:Int->Prop}
theorem qjx (h:Lay w own imm tb mb cl t (fun _=>False) L) {n l:Nat} (hn:t.lv n=some l) {x:En} (hx:qdf w imm x.kv x.kb)
 (hid:∀e∈t.es n++ [x],(l=0->(∃x,getK e.id t.items=some x)/\ -9223372036854775808<=e.id/\e.id<=9223372036854775807)/\(0<l->∃l',t.lv e.kid=some l')) (hes:(t.es n).length<=1000)
 {v:Value} (hW:Below w.heap.size w W) (hv:w1.ownsRow 0 96 3 v ((t.es n).length+1) (qam (decide (l=0)) (t.es n)++qdz (decide (l=0)) x)) (hg:W.grownBy w1 (t.sl n).ownBlock) (hwh:v.ownBlock=(t.sl n).ownBlock\/v.ownBlock=some W.heap.size):
 C9 74 #[gP tb,gP n,v] w1 fun e w' =>e=.returned (.tuple #[])/\∃own',Lay w' own' imm tb mb cl (qbl t l n (t.es n++ [x]) v (t.es n++ [x]).length) (fun _=>False) (fun i=>L i/\(l=0->i ∉ (t.es n++ [x]).map En.id))/\Grow w w' own imm own' imm:=by
 have hLW:=h.tr hW;have hsz:=hW.size;have hL1:=hLW.rowLost hn (fun q=>q) hg
 have hlim:=h.lim
 have hL2:Lay w1 (fun k=>own k\/v.ownBlock=some k) imm tb mb cl t (fun b=>False\/b=n) L:=by
  refine hL1.more (fun b q=> .inl q) (fun _ q=>q) ?_ ?_
  · intro b hb hi
    rcases hb with q|q
    · exact h.sep b q hi
    · rcases hwh with e|e
      · rw [e] at q
        exact h.sep b (h.oR n l b hn (fun q=>q) q) hi
      · rw [e] at q
        cases q
        have:=hlim _ (.inr hi)
        omega
  · intro b hb
    rcases hb with (q|q)|q
    · exact hL1.lim b (.inl q)
    · exact(hv.lt b q).2
    · exact hL1.lim b (.inr q)
 have hlen:(t.es n++ [x]).length=(t.es n).length+1:=sI
 have hgk:Grow w w1 own imm own imm:=Grow.of_turn (((TurnF.refl own w).below hW).grown hg (fun k e=> .inl (h.oR n l k hn (fun q=>q) e)))
 refine(qrr hL2 hn (t.es n++ [x]) v (by rw [hlen,qcc,qqu];exact hv) ?_ ?_ hid (by rw [hlen];omega)).mono ?_
 · intro g hg'
   refine⟨.inr hg',fun b' l' hb' hne hH q=> ?_⟩
   rcases hwh with e|e
   · rw [e] at hg'
     exact hne (h.apR b' n l' l g hb' hn (fun q=>q) (fun q=>q) q hg')
   · rw [e] at hg'
     cases hg'
     have:=(hLW.row b' l' hb' (fun q=>q)).lt _ q
     omega
 · intro e he
   rcases List.mem_append.1 he with q|q
   · exact hL1.ekey n l e hn q
   · rw [zhx.1 q]
     refine(hx.kept (qag hW) sI).kept hg fun g e hi=> ?_
     exact h.sep g (h.oR n l g hn (fun q=>q) e) hi
 · rintro e w' ⟨rfl,hL',ht'⟩
   refine⟨rfl,_,hL'.less (fun b q=> ?_) (fun _ q=>q),?_⟩
   · rcases q.1 with q1|q1
     · exact q1
     · exact q.2 q1
   · have hsz1:=hgk.size
     have hoo:∀b,(own b\/v.ownBlock=some b)->own b\/w.heap.size<=b:=fun b q=>by
      rcases q with q|q
      · exact .inl q
      · rcases hwh with e|e
        · rw [e] at q
          exact .inl (h.oR n l b hn (fun q=>q) q)
        · rw [e] at q
          cases q
          exact .inr hsz
     exact⟨hgk.turn.trans ht' hoo,hoo,fun b q=> .inl q,fun b q=> .inl q,fun b q=>q⟩
theorem Lay.bornNew (h:Lay w own imm tb mb cl t H L) {o l:Nat} (hn:t.lv o=none) (hW:Below w.heap.size w W) (ho:w.heap.size<=o) (hB:Blk W o 79 #[.pointer none,.bool (decide (l=0)),.slice none 0 0]):
 Lay W (fun k=>own k\/k=o) imm tb mb cl (qdu t o l) H L/\Grow w W own imm (fun k=>own k\/k=o) imm:=by
 have h1:Lay W (fun k=>own k\/k=o) imm tb mb cl t H L:=by
  refine(h.tr hW).more (fun _ q=> .inl q) (fun _ q=>q) ?_ ?_
  · intro b hb hi
    rcases hb with q|q
    · exact h.sep b q hi
    · have:=h.lim b (.inr hi);omega
  · intro b hb
    rcases hb with (q|q)|q
    · exact(h.tr hW).lim b (.inl q)
    · rw [q];exact hB.lt
    · exact(h.tr hW).lim b (.inr q)
 refine⟨h1.born (b:=o) (l:=l) (v:=.slice none 0 0) (es:= []) (u:=none) hB (.inr rfl) hn (World.ownsRow_nil _ _ _ _) (by simp [Value.ownBlock]) sI,(TurnF.refl own w).below hW,?_,fun _ q=> .inl q,fun _ q=> .inl q,fun _ q=>q⟩
 intro b q
 rcases q with q|q
 · exact .inl q
 · exact .inr oQ
theorem Lay.fresh (h:Lay w own imm tb mb cl t H L) {o:Nat} (ho:w.heap.size<=o):t.lv o=none:=by
 cases e:t.lv o with
 | none=>rfl
 | some l=>have:=h.lim o (.inl (h.oN o l e));omega
theorem qg6 (h:Lay w own imm tb mb cl t H L) {n l:Nat} (hn:t.lv n=some l) (es:List En) {v:Value} {B:Nat} (hrow:w.ownsRow B 96 3 v es.length (qam (decide (l=0)) es)) (hno:∀g,v.ownBlock=some g->¬ own g/\¬ imm g) (hkey:∀e∈es,qdf w imm e.kv e.kb)
 (hid:∀e∈es,(l=0->(∃x,getK e.id t.items=some x)/\ -9223372036854775808<=e.id/\e.id<=9223372036854775807)/\(0<l->∃l',t.lv e.kid=some l')) (hes:es.length<=1000000):
 C9 74 #[gP tb,gP n,v] w fun e w' =>e=.returned (.tuple #[])/\Lay w' (fun k=>own k\/v.ownBlock=some k) imm tb mb cl (qbl t l n es v es.length) (fun x=>H x/\x≠n) (fun i=>L i/\(l=0->i ∉ es.map En.id))/\TurnF (fun k=>own k\/v.ownBlock=some k) w w' :=by
 refine qrr (own:=fun k=>own k\/v.ownBlock=some k) (h.more (fun _ q=> .inl q) (fun _ q=>q) ?_ ?_) hn es v (qbb hrow (zly _)) ?_ hkey hid hes
 · intro b hb hi
   rcases hb with q|q
   · exact h.sep b q hi
   · exact(hno b q).2 hi
 · intro b hb
   rcases hb with (q|q)|q
   · exact h.lim b (.inl q)
   · exact(hrow.lt b q).2
   · exact h.lim b (.inr q)
 · intro g hg
   exact⟨.inr hg,fun b' l' hb' _ hH q=>(hno g hg).1 (h.oR b' l' g hb' hH q)⟩
end
theorem qdf.turn {w w' :World} {Z F:Nat->Prop} {v:Value} {kb:List Nat} (h:qdf w Z v kb) (ht:TurnF F w w') (hF:∀b,Z b->¬ F b):qdf w' Z v kb:=by
 obtain⟨h1,h2,A,c,e,h3,h4,h5⟩:=h;refine⟨h1,h2,A,c,e,h3,h4,fun hn=> ?_⟩
 obtain⟨b,off,ea,hz,hb,hc⟩:=h5 hn;exact⟨b,off,ea,hz,zky hb ht.size,fun k u hk=>(ht.cell (p:=⟨b,off+k,none⟩) hb (hF b hz)).trans (hc k u hk)⟩
structure SpAt (C:Cl) (w wr:World) (own imm:Nat->Prop) (tb mb:Nat) (cl:Value) (t:Tr) (L:Int->Prop) (n l:Nat) (t' :Tr) (own' imm' :Nat->Prop):Prop where
 lay:Lay wr own' imm' tb mb cl t' (fun _=>False) L
 over:Over C.un t' L n l
 items:t'.items=t.items
 fan:t'.fan=t.fan
 grow:Grow w wr own imm own' imm'
def SpM (C:Cl) (w:World) (own imm:Nat->Prop) (tb mb:Nat) (cl:Value) (t:Tr) (L:Int->Prop) (vn:Value) (wr:World) (m:Nat):Prop:=
 ∃n l t' own' imm',vn=.pointer (some ⟨n,0,none⟩)/\SpAt C w wr own imm tb mb cl t L n l t' own' imm' /\m=msr t' l n
structure RpAt (C:Cl) (w wr:World) (own imm:Nat->Prop) (tb mb:Nat) (cl:Value) (t:Tr) (L:Int->Prop) (n l u:Nat) (t' :Tr) (own' imm' :Nat->Prop) (es:List En) (M:Nat):Prop where
 lay:Lay wr own' imm' tb mb cl t' (fun _=>False) L
 ripe:Ripe C.un t' L n l u
 items:t'.items=t.items
 fan:t'.fan=t.fan
 grow:Grow w wr own imm own' imm'
 es:t'.es n=es
 msr:msrU t' l u<M
section
variable {w W:World} {own imm:Nat->Prop} {tb mb:Nat} {cl:Value} {t:Tr} {H:Nat->Prop} {L:Int->Prop}
theorem Lay.newRoot (h:Lay w own imm tb mb cl t H L) (l:Nat) {r:Nat} (hr:r=w.heap.size):
 Lay ((w.setCell ⟨tb,2,none⟩ (gP r)).alloc (.cells #[.pointer none,.bool false,.slice none 0 0] 79)) (fun k=>own k\/k=r) imm tb mb cl {qdu t r (l+1) with root:=r} H L/\Grow w ((w.setCell ⟨tb,2,none⟩ (gP r)).alloc (.cells #[.pointer none,.bool false,.slice none 0 0] 79)) own imm (fun k=>own k\/k=r) imm:=by
 subst hr;have h1:=h.setRoot (r:=w.heap.size);have h2:=h1.bornNew (W:=(w.setCell ⟨tb,2,none⟩ (gP w.heap.size)).alloc (.cells #[.pointer none,.bool false,.slice none 0 0] 79)) (o:=w.heap.size) (l:=l+1) (h.fresh (zhy _)) bel sI (Blk.new sI rfl)
 exact⟨h2.1,(Grow.of_turn ((TurnF.refl own w).set_ (p:=⟨tb,2,none⟩) (.inl h.oT) _)).trans h2.2⟩
theorem qy8 (w:World) (a b c:Value):(w.alloc (.cells #[a,b,c] 96)).ownsRow w.heap.size 96 3 (.slice (some ⟨w.heap.size,0,none⟩) 1 1) 1 [a,b,c]:=⟨rfl,.inr ⟨w.heap.size,1,#[a,b,c],rfl,zhy _,(Blk.new rfl rfl:Blk (w.alloc (.cells #[a,b,c] 96)) w.heap.size 96 #[a,b,c]),zhy _,by decide,rfl,rfl⟩⟩
theorem qzs (w:World) (Z:Nat->Prop):qdf w Z (.slice none 0 0) []:=⟨by simp,by simp,none,0,rfl,by simp,fun _=>rfl,fun h=>by simp [qap] at h⟩
theorem qie {L' :Int->Prop} (h:Shape t L') {n l:Nat} (hn:t.lv n=some l) (hr:∀i x,getK i t.items=some x->0<=i/\i<=1099511627776):∀e∈t.es n,(l=0->(∃x,getK e.id t.items=some x)/\ -9223372036854775808<=e.id/\e.id<=9223372036854775807)/\(0<l->∃l',t.lv e.kid=some l'):=fun e he=>by
 refine⟨fun h0=> ?_,fun h0=> ?_⟩
 · subst h0
   obtain⟨_,it,hit,_⟩:=h.ent n e hn he;have:=hr _ _ hit;exact⟨⟨it,hit⟩,by omega,by omega⟩
 · exact⟨l-1,(h.kid n (l-1) e (by rw [hn];congr 1;omega) he).1⟩
theorem qjw {f:Nat->Option Nat} {o l k:Nat} (h:∃l',f k=some l'):∃l',updT f o (some l) k=some l' :=by
 unfold updT
 split
 · exact⟨l,rfl⟩
 · exact h
theorem qny (h:Lay w own imm tb mb cl t (fun _=>False) L) {n l:Nat} (hn:t.lv n=some l) {r:Nat} (hr:r=w.heap.size) {w2 W:World} (hL2:Lay w2 (fun k=>own k\/k=r) imm tb mb cl {qdu t r (l+1) with root:=r} (fun _=>False) L) (hG2:Grow w w2 own imm (fun k=>own k\/k=r) imm) (hW:Below w2.heap.size w2 W) (hrow:W.ownsRow w2.heap.size 96 3 (.slice (some ⟨w2.heap.size,0,none⟩) 1 1) 1 [.slice none 0 0,.int .i64 0,gP n]):
 C9 74 #[gP tb,gP r,.slice (some ⟨w2.heap.size,0,none⟩) 1 1] W fun e w' =>e=.returned (.tuple #[])/\∃own',Lay w' own' imm tb mb cl (qiq t l r ⟨.slice none 0 0,[],0,n⟩ (.slice (some ⟨w2.heap.size,0,none⟩) 1 1)) (fun _=>False) L/\Grow w w' own imm own' imm:=by
 have hL3:=hL2.tr hW;refine(qg6 (es:= [⟨.slice none 0 0,[],0,n⟩]) (n:=r) (l:=l+1) hL3 (show updT t.lv r (some (l+1)) r=some (l+1) from qaf) (B:=w2.heap.size) (by simpa [qam,qdz] using hrow) ?_ ?_ ?_ sI).mono ?_
 · intro g hg
   simp only [Value.ownBlock,Option.some.injEq] at hg;subst hg;exact⟨fun q=>by have:=hL2.lim _ (.inl q);omega,fun q=>by have:=hL2.lim _ (.inr q);omega⟩
 · intro e he
   rw [zhx.1 he]
   exact qzs _ _
 · intro e he
   rw [zhx.1 he]
   exact⟨fun q=>by omega,fun _=>qjw ⟨l,hn⟩⟩
 · rintro e w' ⟨rfl,hL',ht⟩
   refine⟨rfl,_,hL'.less (fun _ q=>q.1) (fun i q=>q.1),?_⟩
   have hs2:=hG2.size;have hsW:=hW.size
   have hoo:∀x,((own x\/x=r)\/(Value.slice (some ⟨w2.heap.size,0,none⟩) 1 1).ownBlock=some x)->own x\/w.heap.size<=x:=fun x q=>by
    rcases q with (q|q)|q
    · exact .inl q
    · exact .inr oQ
    · simp only [Value.ownBlock,Option.some.injEq] at q
      exact .inr oQ
   exact⟨(hG2.turn.below hW).trans ht hoo,hoo,fun _ q=> .inl q,fun _ q=> .inl (.inl q),fun _ q=>q⟩
theorem qmr {w4 w6 w7:World} {L' :Int->Prop} {n o u l:Nat} {a b:List En} {va vb:Value} {own6:Nat->Prop} (h4:Lay w4 own imm tb mb cl t (fun _=>False) L) (hs:Shape t L') (hn:t.lv n=some l) (hu:t.up n=some u) (ho:t.lv o=none) (hp:(a++b).Perm (t.es n)) (hr:∀i x,getK i t.items=some x->0<=i/\i<=1099511627776) (hlen:(t.es n).length<=1000)
 (hG:Grow w4 w6 own imm own6 imm) (hT:TwoG w4 w6 (decide (l=0)) va vb a b) (ho6:∀g,vb.ownBlock=some g->¬ own6 g)
 (h7:Lay w7 (fun k=>own6 k\/va.ownBlock=some k) imm tb mb cl (qbl (qdu t o l) l n a va a.length) (fun x=>False/\x≠n) (fun i=>L i/\(l=0->i ∉ a.map En.id))) (ht:TurnF (fun k=>own6 k\/va.ownBlock=some k) w6 w7):
 C9 74 #[gP tb,gP o,vb] w7 fun e w' =>e=.returned (.tuple #[])/\∃own',Lay w' own' imm tb mb cl (cutB t l n o a b va vb) (fun _=>False) L/\Grow w4 w' own imm own' imm:=by
 have hmb:∀e∈b,e∈t.es n:=fun e he=>hp.mem_iff.1 (List.mem_append.2 (.inr he))
 have hne:∀g,vb.ownBlock=some g->¬ (own6 g\/va.ownBlock=some g):=fun g hg q=>q.elim (ho6 g hg) fun q=>hT.sep g q hg
 have hrow7:=qof hT.rb ht hne;have hno:n≠o:=fun e=>by rw [e,ho] at hn;cases hn
 have hb:b.length<=1000:=by have:=hp.length_eq;rw [zny] at this;omega
 have hvb:∀g,vb.ownBlock=some g->w4.heap.size<=g:=fun g hg=>(hT.rb.lt g hg).1
 refine(qg6 (es:=b) (n:=o) (l:=l) h7 (show updT t.lv o (some l) o=some l from qaf) hrow7 ?_ ?_ ?_ oQ).mono ?_
 · intro g hg
   refine⟨hne g hg,fun q=> ?_⟩
   have:=h4.lim g (.inr q);have:=hvb g hg
   omega
 · intro e he
   exact(h4.ekey n l e hn (hmb e he)).turn (hG.turn.trans ht fun x q=>q.elim (hG.oo x) fun q=> .inr (hT.ra.lt x q).1) fun x hx q=>h4.sep x q hx
 · intro e he
   obtain⟨q1,q2⟩:=qie hs hn hr e (hmb e he);exact⟨q1,fun q=>qjw (q2 q)⟩
 · rintro e w' ⟨rfl,hL',ht'⟩
   refine⟨rfl,_,hL'.less (fun _ q=>q.1.1) (fun i q=>q.1.1),?_⟩
   have hs6:=hG.size;have hs7:=ht.size
   have hoo:∀x,((own6 x\/va.ownBlock=some x)\/vb.ownBlock=some x)->own x\/w4.heap.size<=x:=fun x q=>by
    rcases q with (q|q)|q
    · exact hG.oo x q
    · exact .inr (hT.ra.lt x q).1
    · exact .inr (hT.rb.lt x q).1
   have hoo6:∀x,(own6 x\/va.ownBlock=some x)->own x\/w4.heap.size<=x:=fun x q=>hoo x (.inl q)
   exact⟨(hG.turn.trans ht hoo6).trans ht' hoo,hoo,fun _ q=> .inl q,fun _ q=> .inl (.inl (hG.o _ q)),fun _ q=>q⟩
theorem qs2 {w9 w10 w1:World} {L' :Int->Prop} {n o u l i:Nat} {a b:List En} {va vb kvn kv v:Value} {Ua Ub:List Nat} {own8 imm9:Nat->Prop} (h9:Lay w9 own8 imm9 tb mb cl (cutT t l n o u a b va vb i kvn Ua) (fun _=>False) L) (hs:Shape t L') (hn:t.lv n=some l) (hu:t.up n=some u) (ho:t.lv o=none) (hp:(a++b).Perm (t.es n)) (hlen:(t.es u).length<=1000)
 (hb:Below w9.heap.size w9 w10) (ho10:w10.ownsRow w9.heap.size 5 1 kv Ub.length (qap Ub)) (hf:(∀x∈Ub,x<256)/\Ub.length<=1000000) (hW:Below w10.heap.size w10 W) (hv:w1.ownsRow 0 96 3 v ((t.es u).length+1) (qam false ((cutT t l n o u a b va vb i kvn Ua).es u)++ [kv,.int .i64 0,gP o])) (hg:W.grownBy w1 ((cutT t l n o u a b va vb i kvn Ua).sl u).ownBlock) (hwh:v.ownBlock=((cutT t l n o u a b va vb i kvn Ua).sl u).ownBlock\/v.ownBlock=some W.heap.size):
 C9 74 #[gP tb,gP u,v] w1 fun e w' =>e=.returned (.tuple #[])/\∃own' imm',Lay w' own' imm' tb mb cl (cutU t l n o u a b va vb i kvn Ua ⟨kv,Ub,0,o⟩ v) (fun _=>False) L/\Grow w9 w' own8 imm9 own' imm' :=by
 obtain⟨hno,huo,hun,hlvn,hlvu,hlvo,hesn,heso,hesu,hslu,hupn,hex,hkk⟩:=qis (va:=va) (vb:=vb) hs hn hu ho hp;obtain⟨hL,hK,hG⟩:=h9.keyNew hb ho10 (zhy _) hf.1 hf.2;have hes:=qkx (t:=t) (l:=l) (n:=n) (o:=o) (u:=u) (a:=a) (b:=b) (va:=va) (vb:=vb) (i:=i) (kv:=kvn) (kb:=Ua) hun huo;have hel:((cutT t l n o u a b va vb i kvn Ua).es u).length=(t.es u).length:=by rw [hes,List.length_modify]
 refine(qjx (x:=⟨kv,Ub,0,o⟩) hL (n:=u) (l:=l+1) hlvu hK ?_ (by rw [hel];exact hlen) hW (by rw [hel];simpa [qdz] using hv) hg hwh).mono ?_
 · intro e he
   refine⟨fun q=>by omega,fun _=> ?_⟩
   rcases List.mem_append.1 he with q|q
   · rw [hes] at q
     have hk:e.kid∈(t.es u).map En.kid:=by
      rw [<-qgq En.kid (fun e:En=>{e with kv:=kvn,kb:=Ua}) (fun _=>rfl) _ i]
      exact zty.2 ⟨e,q,rfl⟩
     obtain⟨e1,he1,hk1⟩:=zty.1 hk;obtain⟨l',hl'⟩:=hkk e1 he1;exact⟨l',by rw [<-hk1];exact hl'⟩
   · rw [zhx.1 q]
     exact⟨l,hlvo⟩
 · rintro e w' ⟨rfl,own',hL',hG'⟩
   exact⟨rfl,own',_,hL'.less (fun _ q=>q) (fun i q=>q.1),hG.trans hG'⟩
end
section
variable {w:World} {own imm:Nat->Prop} {tb mb:Nat} {t:Tr} {L:Int->Prop}
theorem qvg {C:Cl} {ct:TypeId} {cv:Value} {fM fC fD fU fS:Nat} (hC:ClAt ct cv C fM fC fD fU fS) (h:Lay w own imm tb mb (.iface ct cv) t (fun _=>False) L) {n l:Nat} (ho:Over C.un t L n l) (h4:4<=t.fan) (h16:t.fan<=16) (hrange:∀i x,getK i t.items=some x->0<=i/\i<=1099511627776):
 C9 76 #[gP tb,gP n] w fun e w' =>e=.returned (.tuple #[])/\∃t' own' imm',Lay w' own' imm' tb mb (.iface ct cv) t' (fun _=>False) L/\Shape t' L/\Fill t' (fun _=>False)/\Keyed C.un t' (fun _=>False)/\t'.items=t.items/\t'.fan=t.fan/\Grow w w' own imm own' imm' :=by
 obtain⟨i0,hi,iz0,iz1,iz2⟩:=info_parts Tryz.infoEnG;have HC:=hdQ hC;have HRG:=hdQ hrange;have H0:Hid (SpAt C w w own imm tb mb (.iface ct cv) t L n l t own imm):=⟨h,ho,rfl,rfl,Grow.refl _ _ _⟩;have HFan:Hid (4<=t.fan/\t.fan<=16):=⟨h4,h16⟩;clear h ho h4 h16 hrange hC
 simp only [gP] at*
 go_enter Tryz.func76,Tryz.ntmps76
 go_wp2_with fail
 go_loopw [1] (fun vn wr=>∃m,SpM C w own imm tb mb (.iface ct cv) t L vn wr m) (fun vn wr=>leastN (SpM C w own imm tb mb (.iface ct cv) t L vn wr))
 case atStart=>exact ⟨_,n,l,t,own,imm,rfl,H0.out,rfl⟩
 case round=>
  clear H0;obtain⟨m0,hm0⟩:=hrel;obtain⟨n,l,t',own',imm',hu,hS,hms⟩:=qqj hm0;subst hu;clear hm0;have HMS:=hdQ hms;clear hms;obtain⟨hL,hO,hit,hfan,hG⟩:=hS;have hf4:=HFan.out.1;have hf16:=HFan.out.2;rw [<-hfan] at hf4 hf16;obtain⟨t0,t1,t2,t3,tlt⟩:=hL.c0;obtain⟨n0,n1,n2,nlt⟩:=hL.n0 hO.lv;have hrow:=hL.row n l hO.lv (fun q=>q)
  obtain⟨A,c,hsl,_,_,_⟩:=qas hrow;rw [hsl] at n2;have hlen:=hO.len;have hlens:=hO.lens
  by_cases hov:t'.fan<(t'.es n).length
  case neg=>
   have hov' :¬ ((t'.fan:Nat):Int)<(((t'.es n).length:Nat):Int):=oQ
   have HR:=hdQ (fun W (hW:Below wr.heap.size wr W)=>qj9 HC.out (hL.tr hW) hO.shape hO.lv hO.keyed (fun b m hb=>by have:=hlens b m hb;omega))
   have HO:=hdQ hO;have HF:=hdQ (hO.filled oQ)
   have HG:=hdQ hG;have HI:=hdQ (And.intro hit hfan);clear hL hO hG hit hrow hsl hlens hov hlen hfan HMS;obtain⟨f,hff⟩:∃f,t'.fan=f:=⟨_,rfl⟩
   rw [hff] at t1 hov'
   clear hff;go_wp2_with fail;refine qac kr kr pq ?_
   simp only [zdy,zey,ldz,lds,bare,qak,lcz,lcs,zay]
   repeat' ((try simp only [Act.put,lsi,lsz,lss]);first|(refine lqx ?_)|(refine qab qaa rfl (fun K hK=> ?_);go_simp;((first|fail|skip)<;>(refine hK.out _ _ bel ?_;clear hK K))))
   (all_goals try simp only [Act.put,lsi,lsz,lss]);all_goals(refine qad ?_)
   go_wp2_with (go_at_call 75;(with_reducible refine(HR.out _ bel).mono ?_);rintro e w5 ⟨rfl,t5,imm5,ha5,hk5,hL5,hG5⟩;have HB:Hid (Below wr.heap.size wr w5->True):=fun _=>trivial;have HE:=hdQ (show Grow wr w5 own' imm' own' imm5 from (Grow.of_below bel).trans hG5);have HA5:=hdQ ha5;have HK5:=hdQ hk5;have HL5:=hdQ hL5;clear ha5 hk5 hL5 hG5)
   go_end0
   exact⟨rfl,t5,own',imm5,HL5.out,HO.out.shape.alike HA5.out,HF.out.alike HA5.out,HK5.out,HA5.out.items.trans HI.out.1,HA5.out.fan.trans HI.out.2,HG.out.trans HE.out⟩
  have hov' :((t'.fan:Nat):Int)<(((t'.es n).length:Nat):Int):=oQ
  have fT:=hL.hd.frozen;have HL:=hdQ hL;have HO:=hdQ hO;have HG:=hdQ hG;have HI:=hdQ (And.intro hit hfan);have HSL:=hdQ hsl;have HOV:=hdQ hov;have HF4:=hdQ hf4;have HF16:=hdQ hf16;clear hL hO hG hit hrow hsl hlens hov hlen hfan hf4 hf16;obtain⟨up,hup⟩:∃u,t'.up n=u:=⟨_,rfl⟩;have HUP:=hdQ hup;rw [hup] at n0;clear hup;go_wp2_with fail;refine qac kr kr pq ?_
  simp only [zdy,zey,ldz,lds,bare,qak,lcz,lcs,zay]
  repeat' ((try simp only [Act.put,lsi,lsz,lss]);first|(refine lqx ?_)|(refine qab qaa rfl (fun K hK=> ?_);go_simp;((first|fail|skip)<;>(refine hK.out _ _ bel ?_;clear hK K))))
  (all_goals try simp only [Act.put,lsi,lsz,lss]);all_goals(refine qad ?_)
  rcases up with _|u
  case' none=>
   simp only [gO] at n0
   go_upto_region 3 with (fail)
   refine qck (fun w2=>Lay w2 (fun k=>own' k\/k=wr.heap.size) imm' tb mb (.iface ct cv) {qdu t' wr.heap.size (l+1) with root:=wr.heap.size} (fun _=>False) L/\Grow wr w2 own' imm' (fun k=>own' k\/k=wr.heap.size) imm') ⟨(HL.out.newRoot l rfl).1.drew,(HL.out.newRoot l rfl).2.trans (Grow.of_below (Below.refl _ _).drew)⟩ ?_
   rintro w2 ⟨hL2,hG2⟩;have hnr:n=t'.root:=HO.out.shape.one n l HO.out.lv HUP.out;have hfr:t'.lv wr.heap.size=none:=HL.out.fresh (zhy _);have HT:=hdQ (fun W (hW:Below w2.heap.size w2 W) hrow=>qny HL.out HO.out.lv rfl hL2 hG2 hW hrow)
   have hgr:=HO.out.grow (x:=⟨.slice none 0 0,[],0,n⟩) (v:=.slice (some ⟨w2.heap.size,0,none⟩) 1 1) hnr hfr hnr HF4.out;have hmg:=qzk (r:=wr.heap.size) (x:=⟨.slice none 0 0,[],0,n⟩) (v:=.slice (some ⟨w2.heap.size,0,none⟩) 1 1) HO.out hnr HF4.out HOV.out;have HGR:=hdQ (And.intro hgr hmg);obtain⟨t0,t1,t2,t3,tlt⟩:=hL2.c0;clear hnr hfr hgr hmg hL2 hG2;generalize wr.heap.size=r at*
   simp only [gP] at*
   go_upto_region 4 with (go_at_call 74;(with_reducible refine(HT.out _ bel (qy8 _ _ _ _)).mono ?_);rintro e w5 ⟨rfl,own5,hL5,hG5⟩)
   refine qck (fun w4=>∃t4 own4 imm4 u,RpAt C w w4 own imm tb mb (.iface ct cv) t L n l u t4 own4 imm4 (t'.es n) (msr t' l n)) ⟨_,_,_,_,hL5,HGR.out.1.1,HI.out.1,HI.out.2,HG.out.trans hG5,HGR.out.1.2,HGR.out.2⟩ ?_
   clear hL5 hG5
  case' some=>
   simp only [gO,gP] at n0
   go_upto_region 4 with (fail)
   refine qck (fun w4=>∃t4 own4 imm4 u,RpAt C w w4 own imm tb mb (.iface ct cv) t L n l u t4 own4 imm4 (t'.es n) (msr t' l n)) ⟨t',own',imm',u,HL.out.drew,HO.out.ripe HUP.out HF4.out,HI.out.1,HI.out.2,HG.out.trans (Grow.of_below (Below.refl _ _).drew),rfl,q21 HO.out HUP.out HOV.out⟩ ?_
  all_goals
   rintro w4 ⟨t4,own4,imm4,u,hR⟩;obtain⟨hL4,hP4,hit4,hfan4,hG4,hes4,hms4⟩:=hR;have hov4:t4.fan<(t4.es n).length:=by rw [hes4,hfan4,<-HI.out.2];exact HOV.out
   clear HL HO HG HI HSL HOV HUP fT hov' n0 n1 n2 nlt t0 t1 t2 t3 tlt HF4 HF16;have hf4:4<=t4.fan:=by rw [hfan4];exact HFan.out.1
   have hf16:t4.fan<=16:=by rw [hfan4];exact HFan.out.2
   have hrg4:∀i x,getK i t4.items=some x->0<=i/\i<=1099511627776:=by rw [hit4];exact HRG.out
   have hlen4:=hP4.len;have hlens:=hP4.lens;obtain⟨n0,n1,n2,nlt⟩:=hL4.n0 hP4.lv;have hrow4:=hL4.row n l hP4.lv (fun q=>q)
   have hpa:=qv2 HC.out hL4 (decide (l=0)) (t4.es n) (t4.sl n) hrow4 (fun e he=>hL4.ekey n l e hP4.lv he) oQ oQ oQ
   obtain⟨A4,c4,hsl4,_,_,_⟩:=qas hrow4;rw [hsl4] at n2 hpa;have HPa:=hdQ hpa;have HL4:=hdQ hL4;have HP4:=hdQ hP4;have HX4:=hdQ (And.intro hit4 (And.intro hfan4 (And.intro hG4 hms4)));have HRG4:=hdQ hrg4;have HLN:=hdQ hlens;clear hL4 hP4 hit4 hfan4 hG4 hes4 hms4 hrow4 hpa hsl4 hrg4 hlens hov4 hlen4
   go_upto_region 6 with (go_at_call 107;(with_reducible refine HPa.out.mono ?_);rintro e w5 ⟨va,vb,a,b,rfl,hpm,hqa,hqb,hT5⟩;obtain⟨hc5,hf5⟩:=qa1 hT5.bl;have hz5:=hT5.bl.size;have nlt5:n<w5.heap.size:=oQ;have HT5:=hdQ hT5;have HPM:=hdQ hpm;clear hT5 hpm)
   have hB6:=(HL4.out.tr HT5.out.bl).bornNew (W:=w5.alloc (.cells #[.pointer none,.bool (decide (l=0)),.slice none 0 0] 79)) (o:=w5.heap.size) (l:=l) (Lay.fresh (HL4.out.tr HT5.out.bl) (zhy _)) bel (zhy _) (Blk.new sI rfl)
   have hT6:TwoG w4 (w5.alloc (.cells #[.pointer none,.bool (decide (l=0)),.slice none 0 0] 79)) (decide (l=0)) va vb a b:=HT5.out.tr bel;refine qck (fun w6=>Lay w6 (fun k=>own4 k\/k=w5.heap.size) imm4 tb mb (.iface ct cv) (qdu t4 w5.heap.size l) (fun _=>False) L/\Grow w4 w6 own4 imm4 (fun k=>own4 k\/k=w5.heap.size) imm4/\TwoG w4 w6 (decide (l=0)) va vb a b) ⟨hB6.1,(Grow.of_below HT5.out.bl).trans hB6.2,hT6⟩ ?_
   clear hB6 hT6;rintro w6 ⟨hL6,hG6,hT6⟩;have hva:∀g,va.ownBlock=some g->w4.heap.size<=g/\g<w5.heap.size:=fun g hg=>HT5.out.ra.lt g hg
   have hvb:∀g,vb.ownBlock=some g->w4.heap.size<=g/\g<w5.heap.size:=fun g hg=>HT5.out.rb.lt g hg
   have hfo:t4.lv w5.heap.size=none:=HL4.out.fresh hz5;clear HT5 hc5 hf5 nlt5 n0 n1 n2 nlt HPa;generalize w5.heap.size=o at*;clear w5;have hno:n≠o:=fun e=>by have:=HP4.out.lv;rw [e,hfo] at this;cases this
   have hal:a.length+b.length=(t4.es n).length:=by have:=HPM.out.length_eq;simpa using this
   have hl1000:(t4.es n).length<=1000:=by have:=HLN.out n l HP4.out.lv;omega
   have HT6:=hdQ (qg6 (n:=n) (l:=l) hL6 (show updT t4.lv o (some l) n=some l by rw [qai hno];exact HP4.out.lv) a hT6.ra (fun g hg=>⟨fun q=>q.elim (fun q=>by have:=HL4.out.lim g (.inl q);have:=hva g hg;omega) (fun q=>by have:=hva g hg;omega),fun q=>by have:=HL4.out.lim g (.inr q);have:=hva g hg;omega⟩)
    (fun e he=>hL6.ekey n l e (show updT t4.lv o (some l) n=some l by rw [qai hno];exact HP4.out.lv) (show e∈updT t4.es o [] n by rw [qai hno];exact HPM.out.mem_iff.1 (List.mem_append.2 (.inl he))))
    (fun e he=>by
      obtain⟨q1,q2⟩:=qie HP4.out.shape HP4.out.lv HRG4.out e (HPM.out.mem_iff.1 (List.mem_append.2 (.inl he)))
      exact⟨q1,fun q=>qjw (q2 q)⟩) oQ)
   have HT7:=hdQ (fun w7 h7 ht=>qmr (w7:=w7) HL4.out HP4.out.shape HP4.out.lv HP4.out.up hfo HPM.out HRG4.out hl1000 hG6 hT6 (fun g hg q=>q.elim (fun q=>by have:=HL4.out.lim g (.inl q);have:=hvb g hg;omega) (fun q=>by have:=hvb g hg;omega)) h7 ht)
   have hcb:=qis (va:=va) (vb:=vb) HP4.out.shape HP4.out.lv HP4.out.up hfo HPM.out;have HCB:=hdQ hcb;have HFO:=hdQ hfo;have hab:a.length<=1000/\b.length<=1000:=oQ
   clear hL6 hG6 hT6 hva hvb hcb hfo hal
   go_wp2_with (first|(go_at_call 74;(with_reducible refine HT6.out.mono ?_);rintro e w7 ⟨rfl,hL7,ht7⟩;have H7:=hdQ (And.intro hL7 ht7);clear hL7 ht7)|(go_at_call 74;(with_reducible refine(HT7.out _ H7.out.1 H7.out.2).mono ?_);rintro e w8 ⟨rfl,own8,hL8,hG8⟩;obtain⟨_,_,_,hlvn,hlvu,hlvo,hesn,heso,hesu,hslu,hupn,hex,hkk⟩:=HCB.out;obtain⟨n0,n1,n2,nlt⟩:=hL8.n0 hlvn;rw [hupn] at n0;simp only [gO,gP] at n0;clear n1 n2))
   obtain⟨u0,u1,u2,ult⟩:=hL8.n0 hlvu;obtain⟨e0,he0,hek0⟩:=hex;obtain⟨g,cg,cur,hslg,hmc,hBg⟩:=hL8.rowAt hlvu (fun q=>q) (by rw [hesu];exact he0)
   rw [hslg] at u2;have fR:=hBg.frozen;have hgl:=hBg.lt;have hlu4:=HP4.out.lenu;obtain⟨mu,hmu⟩:∃m,(t4.es u).length=m:=⟨_,rfl⟩;rw [hesu,hmu] at u2 hmc;rw [hmu] at hlu4;have HM:=hdQ hmu;have HPl:=hdQ (fun W (hW:Below w8.heap.size w8 W)=>qih (hL8.tr hW) hlvn hupn hlvu (by rw [hesu];exact⟨e0,he0,hek0⟩) (by rw [hesu];exact hkk) (fun q=>q) (by rw [hesu,hmu];omega))
   have hua:=fun W (hW:Below w8.heap.size w8 W)=>qgk HC.out (hL8.tr hW) hlvn (fun q=>q) (by rw [hesn];omega)
   rw [hesn] at hua;have HUa:=hdQ hua
   have hka:∀k∈a.map En.kb,(∀x∈k,x<256)/\k.length<=1000000:=fun k hk' =>by
    obtain⟨e,he,rfl⟩:=zty.1 hk';have:=hL8.ekey n _ e hlvn (by rw [hesn];exact he)
    exact⟨this.1,this.2.1⟩
   have hfa:=HC.out.formU _ (fun k hk=>(hka k hk).1) (fun k hk=>(hka k hk).2)
   have hkb:∀k∈b.map En.kb,(∀x∈k,x<256)/\k.length<=1000000:=fun k hk' =>by
    obtain⟨e,he,rfl⟩:=zty.1 hk';have:=hL8.ekey o _ e hlvo (by rw [heso];exact he)
    exact⟨this.1,this.2.1⟩
   have hfb:=HC.out.formU _ (fun k hk=>(hkb k hk).1) (fun k hk=>(hkb k hk).2)
   have HFB:=hdQ hfb;have HRow:=hdQ (hL8.row u _ hlvu (fun q=>q))
   have HSL:=hdQ hslg;have HREF:=hdQ (fun W (i:Nat) kv (hW:Below w8.heap.size w8 W) (hi:i<mu) (ho:W.ownsRow w8.heap.size 5 1 kv (C.un (a.map En.kb)).length (qap (C.un (a.map En.kb))))=>hL8.refreshed hW hlvu (fun q=>q) (by rw [hslg,hesu,hmu]) (by rw [hesu,hmu];exact hi) ho (zhy _) hfa.1 hfa.2)
   have HG8:=hdQ hG8;have hz8:=hG8.size;obtain⟨Ua,hUa⟩:∃U,C.un (a.map En.kb)=U:=⟨_,rfl⟩;obtain⟨Ub,hUb⟩:∃U,C.un (b.map En.kb)=U:=⟨_,rfl⟩;rw [hUa] at HREF HUa;rw [hUb] at HFB;have HUA:=hdQ hUa;have HUB:=hdQ hUb;clear hL8 hG8 hlvn hlvu hlvo hesn heso hesu hslu hupn hkk he0 hek0 hslg hBg hmu hua hka hfa hkb hfb hUa hUb HT6 HT7 H7;go_wp2_with fail;refine qax [0,1,2,3,4,6,7,5,8,9,10] [11] kr kr pq ?_
   simp only [zdy,zey,ldz,lds,bare,qak,lcz,lcs,zay,qc0,Option.isNone_none,Bool.and_true,Bool.true_and,Bool.false_and,Bool.and_self]
   repeat((try simp only [Act.put,lsi,lsz,lss]);first|(refine qbh (v:= ?_) qaa rfl ?_ ?_;rotate_left;focus(intro wq;go_simp;try with_reducible rfl))|(refine qa6 (v:= ?_) qaa rfl ?_ ?_;rotate_left;focus(intro wq hq;obtain⟨hcq,hfq⟩:=qa1 hq;go_simp;try with_reducible rfl))|(refine qa7 qaa rfl (fun K hK=> ?_);go_simp;((first|(go_at_call 46;(with_reducible refine(HPl.out _ bel).mono ?_);rintro e w5 ⟨i,x,hx,hxk,rfl,hb5⟩;obtain⟨hc5,hf5,hz5⟩:=bc3 hb5;(try simp at hz5);have hg5:g<w5.heap.size:=oQ;have HX:=hdQ hx;have HXK:=hdQ hxk;have hil:i<mu:=(by have:=(zsy.1 hx).1;rw [HCB.out.2.2.2.2.2.2.2.2.1,HM.out] at this;exact this);have hil0:(i:Int)<(mu:Int):=oQ;have hrw:=HRow.out;obtain⟨g',c',hv',_,r0,_,_⟩:=qcf hrw hx;rw [HSL.out] at hv';injection hv' with hv1 hv2 hv3;injection hv1 with hv1;injection hv1 with hv1;subst hv1;have r5:w5.cell? ⟨g,i*3,none⟩=some x.kv:=(hc5 g _ (by simpa using hgl)).trans (by simpa using r0);have f5:w5.frozen? ⟨g,i*3,none⟩=false:=(hf5 g _ (by simpa using hgl)).trans (by simpa using fR _);clear hv2 hv3 hrw hx hxk)|(go_at_call 48;(with_reducible refine(HUa.out _ bel).mono ?_);rintro e w6 ⟨v6,rfl,ho6,hb6⟩;obtain⟨A6,c6,rfl,_,_,_,_⟩:=qa0 ho6;have HO6:=hdQ ho6;clear ho6;obtain⟨hc6,hf6,hz6⟩:=bc3 hb6;(try simp at hz6);have r6:w6.cell? ⟨g,i*3,none⟩=some x.kv:=(hc6 g _ (by simpa using hg5)).trans (by simpa using r5);have f6:w6.frozen? ⟨g,i*3,none⟩=false:=(hf6 g _ (by simpa using hg5)).trans (by simpa using f5))|skip)<;>(refine hK.out _ _ bel ?_;clear hK K))))
   (all_goals try simp only [Act.put,lsi,lsz,lss])
   refine qbs ?_;refine qao (fun K hK=> ?_)
   go_simp
   refine q1x (K:=K) (fun w9=>∃imm9,Lay w9 own8 imm9 tb mb (.iface ct cv) (cutT t4 l n o u a b va vb i (.slice A6 Ua.length c6) Ua) (fun _=>False) L/\Grow w8 w9 own8 imm4 own8 imm9) ?_ ?_;(focus(refine HREF.out _ i (.slice A6 Ua.length c6) ?_ hil ?_;(focus(exact bel));(focus(refine qbb (qaq HO6.out (qag ?_) sI) (by(try simp);omega);exact bel))));rintro w9 ⟨imm9,hL9,hG9⟩
   refine hK.out _ _ ?_;clear hK K
   (try simp only [Act.put,lsi,lsz,lss])
   refine qbr ?_;clear r0 r5 f5 r6 f6 hc5 hf5 hc6 hf6 hb5 hb6 hz5 hz6 hg5 HREF HPl HUa HO6 HRow HSL fR hgl n0 nlt u0 u1 u2 ult hmc;obtain⟨kvn,hkvn⟩:∃v,Value.slice A6 Ua.length c6=v:=⟨_,rfl⟩;rw [hkvn] at hL9;clear hkvn;obtain⟨_,huo,hun,hlvn,hlvu,hlvo,hesn,heso,hesu,hslu,hupn,_,hkk⟩:=HCB.out;have hu9:(cutT t4 l n o u a b va vb i kvn Ua).lv u=some (l+1):=hlvu;have ho9:(cutT t4 l n o u a b va vb i kvn Ua).lv o=some l:=hlvo;have heo9:(cutT t4 l n o u a b va vb i kvn Ua).es o=b:=(show updT (cutB t4 l n o a b va vb).es u _ o=b by rw [qai (Ne.symm huo)];exact heso)
   obtain⟨u0,u1,u2,ult⟩:=hL9.n0 hu9;have hrow9:=hL9.row u _ hu9 (fun q=>q)
   rw [show decide (l+1=0)=false by simp] at hrow9
   obtain⟨A9,c9,hsl9,_,_,_⟩:=qas hrow9;have hes9:((cutT t4 l n o u a b va vb i kvn Ua).es u).length=mu:=by rw [qkx hun huo,List.length_modify];exact HM.out
   rw [hes9] at hsl9 hrow9;rw [hsl9] at u2 hrow9;have hub:=fun W (hW:Below w9.heap.size w9 W)=>qgk HC.out (hL9.tr hW) ho9 (fun q=>q) (by rw [heo9];omega)
   rw [heo9,HUB.out] at hub;have HUb:=hdQ hub;have HROW:=hdQ (fun W (hW:Below w9.heap.size w9 W)=>qaq hrow9 (qag hW) sI)
   have HTA:=hdQ (fun w10 W w1 kv v hb ho10 hW hv hg hwh=>qs2 (kv:=kv) (v:=v) (Ub:=Ub) (w10:=w10) (W:=W) (w1:=w1) hL9 HP4.out.shape HP4.out.lv HP4.out.up HFO.out HPM.out (by rw [HM.out];omega) hb ho10 HFB.out hW hv hg hwh)
   rw [HM.out,hsl9] at HTA;have HG9:=hdQ hG9;obtain⟨ecs,hecs⟩:∃x,qam false ((cutT t4 l n o u a b va vb i kvn Ua).es u)=x:=⟨_,rfl⟩;rw [hecs] at HROW HTA;have hmu2:mu<=1000:=oQ
   clear hL9 hG9 hlvn hlvu hlvo hesn heso hesu hslu hupn hkk hu9 ho9 heo9 hrow9 hsl9 hes9 hub hecs;simp only [gP] at HTA;go_wp2_with fail;refine qax [0,1,2,3,4,5,6,7,9,8,10,11] [12,13] kr kr pq ?_
   simp only [zdy,zey,ldz,lds,bare,qak,lcz,lcs,zay,qc0,Option.isNone_none,Bool.and_true,Bool.true_and,Bool.false_and,Bool.and_self]
   repeat((try simp only [Act.put,lsi,lsz,lss]);first|(refine qbh (v:= ?_) qaa rfl ?_ ?_;rotate_left;focus(intro wq;go_simp;try with_reducible rfl))|(refine qa6 (v:= ?_) qaa rfl ?_ ?_;rotate_left;focus(intro wq hq;obtain⟨hcq,hfq⟩:=qa1 hq;go_simp;try with_reducible rfl))|(refine qa7 qaa rfl (fun K hK=> ?_);go_simp;((first|(go_at_call 48;(with_reducible refine(HUb.out _ bel).mono ?_);rintro e w10 ⟨v10,rfl,ho10,hb10⟩;obtain⟨A10,c10,rfl,_,_,_,_⟩:=qa0 ho10;have HO10:=hdQ ho10;clear ho10;obtain⟨hc10,hf10,hz10⟩:=bc3 hb10;(try simp at hz10))|skip)<;>(refine hK.out _ _ bel ?_;clear hK K))))
   (all_goals try simp only [Act.put,lsi,lsz,lss])
   refine qbs ?_;refine qao (fun K hK=> ?_)
   (refine qcl _ _ _ 77 rfl 96 i0 (.agg #[.slice none 0 0,.int .i64 0,.pointer none]) 3 40 Tryz.underlying77 hi iz0 iz1 iz2 rfl dE (.slice A9 mu c9) mu ecs rfl (HROW.out _ bel) ⟨w10.heap.size,0,none⟩ 1 1 [.slice A10 Ub.length c10,.int .i64 0,.pointer (some ⟨o,0,none⟩)] rfl rfl ?_ ?_ ?_ ?_ ?_ ?_);(focus(exact qfb));(focus(simp [Value.oneCell']));(focus(unfold maxLen;omega));(focus omega);(focus(decide));intro v' w3 hown' hgrow hwh
   refine hK.out _ _ ?_;clear hK K
   (try simp only [Act.put,lsi,lsz,lss])
   refine qao (fun K hK=> ?_)
   go_simp
   go_at_call 74;(refine(HTA.out w10 _ _ _ _ ?_ ?_ ?_ hown' hgrow hwh).mono ?_);(focus(exact bel));(focus(exact qbb HO10.out sI));(focus(exact bel));rintro e w11 ⟨rfl,own11,imm11,hL11,hG11⟩
   refine hK.out _ _ ?_;clear hK K
   (try simp only [Act.put,lsi,lsz,lss])
   refine qbr ?_;have HL11:=hdQ hL11;have HG11:=hdQ hG11;clear hL11 hG11 hown' hgrow hwh hb10 hc10 hf10 hz10
   have hnew:SpM C w own imm tb mb (.iface ct cv) t L (.pointer (some ⟨u,0,none⟩)) w11 (msr (cutU t4 l n o u a b va vb i kvn Ua ⟨.slice A10 Ub.length c10,Ub,0,o⟩ v') (l+1) u):=by
    have hx:=HX.out;rw [HCB.out.2.2.2.2.2.2.2.2.1] at hx;have hov:=HP4.out.cut (U:=C.un) (va:=va) (vb:=vb) (vu:=v') (kv:=kvn) (x:=⟨.slice A10 Ub.length c10,Ub,0,o⟩) HFO.out HPM.out ⟨rfl,rfl⟩ hqa hqb hf4 hx HXK.out HUB.out.symm;rw [HUA.out] at hov;exact⟨u,l+1,_,own11,imm11,rfl,⟨HL11.out,hov,HX4.out.1,HX4.out.2.1,HX4.out.2.2.1.trans (HG8.out.trans (HG9.out.trans HG11.out))⟩,rfl⟩
   have hmsr:leastN (SpM C w own imm tb mb (.iface ct cv) t L (.pointer (some ⟨u,0,none⟩)) w11)<msr t' l n:=by
    refine zix (qwz hnew) ?_
    rw [q1o HP4.out HFO.out HPM.out]
    exact HX4.out.2.2.2
   have HNEW:=hdQ hnew;have HMSR:=hdQ hmsr;clear hnew hmsr;go_wp2
   go_roundw
   case rel=>exact ⟨_,HNEW.out⟩
   case measure=>rw [HMS.out];exact HMSR.out
end
theorem qx1 {t:Tr} {L:Int->Prop} {U:List (List Nat)->List Nat} (hs:Shape t L) (hf:Fill t fun _=>False) (hk:Keyed U t fun _=>False) {n:Nat} (hn:t.lv n=some 0) {id:Int} {x:It} (hx:getK id t.items=some x) (hid:L id) (v:Value):
 Shape (qbl t 0 n (t.es n++ [entG x id]) v (t.es n++ [entG x id]).length) (fun i=>L i/\i≠id)/\Fill (qbl t 0 n (t.es n++ [entG x id]) v (t.es n++ [entG x id]).length) (· =n)/\Keyed U (qbl t 0 n (t.es n++ [entG x id]) v (t.es n++ [entG x id]).length) (· =n)/\∀b l,(qbl t 0 n (t.es n++ [entG x id]) v (t.es n++ [entG x id]).length).lv b=some l->((qbl t 0 n (t.es n++ [entG x id]) v (t.es n++ [entG x id]).length).es b).length<=t.fan+1:=by
 have hes:∀b,b≠n->(qbl t 0 n (t.es n++ [entG x id]) v (t.es n++ [entG x id]).length).es b=t.es b:=fun b hb=>qai hb
 have hsn:(qbl t 0 n (t.es n++ [entG x id]) v (t.es n++ [entG x id]).length).es n=t.es n++ [entG x id]:=qaf;have hup:(qbl t 0 n (t.es n++ [entG x id]) v (t.es n++ [entG x id]).length).up=t.up:=by unfold qbl;simp
 refine⟨?_,?_,?_,?_⟩
 · refine hs.addLeaf (n:=n) (id:=id) (it:=x) (x:=entG x id) (v:=v) hn hid hx ⟨rfl,rfl,rfl⟩ ?_
   rw [qlu]
   unfold qce
   rw [List.take_length]
 · intro b l hb hX
   rw [hes b hX]
   exact hf b l hb (fun q=>q)
 · intro b l u e hb hu hX he hek
   rw [hup] at hu
   rw [hes b hX]
   have hun:u≠n:=fun q=>by
    have:=(hs.up b l u hb hu).1;rw [q,hn] at this
    cases this
   rw [hes u hun] at he;exact hk b l u e hb hu (fun q=>q) he hek
 · intro b l hb
   by_cases q:b=n
   · rw [q,hsn]
     have:=(hf n 0 hn (fun q=>q)).1
     simp
     exact this
   · rw [hes b q]
     have:=(hf b l hb (fun q=>q)).1
     omega
section
variable {w:World} {own imm:Nat->Prop} {tb mb:Nat} {t:Tr} {L:Int->Prop}
theorem qx0 {C:Cl} {ct:TypeId} {cv:Value} {fM fC fD fU fS fP:Nat} (hC:ClAt ct cv C fM fC fD fU fS) (hP:PenAt ct cv fP) (h:Lay w own imm tb mb (.iface ct cv) t (fun _=>False) L) (hs:Shape t L) (hf:Fill t fun _=>False) (hk:Keyed C.un t fun _=>False) (h4:4<=t.fan) (h16:t.fan<=16) (hrange:∀i x,getK i t.items=some x->0<=i/\i<=1099511627776) {id:Int} {x:It} (hx:getK id t.items=some x) (hid:L id):
 C9 49 #[gP tb,.int .i64 id] w fun e w' =>e=.returned (.tuple #[])/\∃t' own' imm',Lay w' own' imm' tb mb (.iface ct cv) t' (fun _=>False) (fun i=>L i/\i≠id)/\Shape t' (fun i=>L i/\i≠id)/\Fill t' (fun _=>False)/\Keyed C.un t' (fun _=>False)/\t'.items=t.items/\t'.fan=t.fan/\Grow w w' own imm own' imm' :=by
 obtain⟨i0,hi,iz0,iz1,iz2⟩:=info_parts Tryz.infoEnG;obtain⟨t0,t1,t2,t3,tlt⟩:=h.c0;obtain⟨z,hB,_⟩:=h.it id x hx;have x2:=hB.cell 2;simp only [lAq] at x2;have hBl:=hB.lt;obtain⟨_,_,Ak,ck,ek,_,_,_⟩:=(h.ikey id x hx).1;have HG:=hdQ (qcy hx);have HM:=hdQ h.mp;have hxr:=hrange id x hx;have hlens:∀b l,t.lv b=some l->(t.es b).length<=16:=fun b l hb=>by have:=(hf b l hb (fun q=>q)).1;omega
 have HCh:=hdQ (fun W (hW:Below w.heap.size w W)=>quk hP (h.tr hW) hs (fun b l hb q=>by
  have:=hf b (l+1) hb (fun q=>q)
  rw [q] at this
  simp at this
  by_cases e:b=t.root
  · exact this.2 e
  · have:=this.1 e;omega) (fun b l hb=>by have:=hlens b l hb;omega) (((h.tr hW).ikey id x hx).1))
 have HROW:=hdQ (fun W n (hW:Below w.heap.size w W) (hn:t.lv n=some 0)=>show W.ownsRow 0 96 3 (t.sl n) (t.es n).length (qam true (t.es n)) from qaq (h.row n 0 hn (fun q=>q)) (qag hW) sI)
 have HN:=hdQ (fun n (hn:t.lv n=some 0)=>h.n0 hn)
 have HTk:=hdQ (fun W w1 n v (hn:t.lv n=some 0) (hW:Below w.heap.size w W) (hv:w1.ownsRow 0 96 3 v ((t.es n).length+1) (qam true (t.es n)++ [x.kv,.int .i64 id,.pointer none])) hg hwh=>qjx (x:=entG x id) (W:=W) (w1:=w1) (v:=v) h hn (h.ikey id x hx).1 (fun e he=>by
  rcases List.mem_append.1 he with q|q
  · exact qie hs hn hrange e q
  · rw [zhx.1 q]
    exact⟨fun _=>⟨⟨x,hx⟩,by simp only [entG];omega,by simp only [entG];omega⟩,fun q=>by omega⟩) (by have:=hlens n 0 hn;omega) hW hv hg hwh)
 have HOv:=hdQ (fun n v (hn:t.lv n=some 0)=>qx1 hs hf hk hn hx hid v)
 have HLo:=hdQ (fun n (hn:t.lv n=some 0)=>hf n 0 hn (fun q=>q))
 have HCC:=hdQ hC;have HRG:=hdQ hrange;have HH:Hid (4<=t.fan/\t.fan<=16):=⟨h4,h16⟩;have HLN:=hdQ hlens;have HXR:=hdQ hxr;have h0: -9223372036854775808<=id:=oQ
 have h1:id<=9223372036854775807:=oQ
 rw [ek] at x2 HCh;have HEK:=hdQ ek;clear h hB hs hf hk hC hP hrange h4 h16 ek hlens hxr
 try simp only [gP] at*
 go_enter Tryz.func49,Tryz.ntmps49
 go_wp2_with (first|(at_lookup;go_must (refine qdg _ rfl _ _ _ rfl rfl rfl (show MapO _ _ _ (some mb) _ from qba.tr HM.out bel) Tryz.underlying3 Tryz.underlying80 (Tryz.zeroItG _) h0 h1 ?_;rw [HG.out];simp only [Option.getD_some]))|(go_at_call 73;(with_reducible refine(HCh.out _ bel).mono ?_);rintro e w1 ⟨n,hn,rfl,hb1⟩;obtain⟨hc1,hf1,hz1⟩:=bc3 hb1;(try simp at hz1);obtain⟨n0,n1,n2,nlt⟩:=HN.out n hn;have HNN:=hdQ hn;obtain⟨A,c,hsl,_,_,_⟩:=qas (HROW.out w n (Below.refl _ _) hn);have HSL:=hdQ hsl;rw [hsl] at n2;have hrow:=fun W hW=>HROW.out W n hW hn;rw [hsl] at hrow;have HRW:=hdQ hrow;have htk:=fun W w1 v hW hv hg hwh=>HTk.out W w1 n v hn hW hv hg hwh;rw [hsl] at htk;have HTK:=hdQ htk;have hm16:=HLN.out n 0 hn;have n2' :=(hc1 _ 2 nlt).trans n2;have x2' :=(hc1 _ 2 hBl).trans x2;have nlt1:=zky nlt hz1;have xlt1:=zky hBl hz1;clear n0 n1 n2 x2 t0 t1 t2 t3 tlt hc1 hf1 hsl hrow htk hn))
 have hb1w:Below w.heap.size w w1:=bel;obtain⟨m,hm⟩:∃m,(t.es n).length=m:=⟨_,rfl⟩;obtain⟨cells,hce⟩:∃x,qam true (t.es n)=x:=⟨_,rfl⟩;rw [hm,hce] at HRW HTK
 rw [hm] at n2' hm16
 have HM1:=hdQ hm;clear hm hce;rw [HEK.out] at HTK
 try simp only [gP] at HTK
 refine qax [0,1,2,3,4,5,6,7,8,9,10,11,12] [13,14] kr kr pq ?_
 simp only [zdy,zey,ldz,lds,bare,qak,lcz,lcs,zay,qc0,Option.isNone_none,Bool.and_true,Bool.true_and,Bool.false_and,Bool.and_self]
 repeat((try simp only [Act.put,lsi,lsz,lss]);first|(refine qbh (v:= ?_) qaa rfl ?_ ?_;rotate_left;focus(intro wq;go_simp;try with_reducible rfl))|(refine qa6 (v:= ?_) qaa rfl ?_ ?_;rotate_left;focus(intro wq hq;obtain⟨hcq,hfq⟩:=qa1 hq;go_simp;try with_reducible rfl))|(refine qa7 qaa rfl (fun K hK=> ?_);go_simp;((first|fail|skip)<;>(refine hK.out _ _ bel ?_;clear hK K))))
 (all_goals try simp only [Act.put,lsi,lsz,lss])
 refine qbs ?_;refine qao (fun K hK=> ?_)
 (refine qcl _ _ _ 77 rfl 96 i0 (.agg #[.slice none 0 0,.int .i64 0,.pointer none]) 3 40 Tryz.underlying77 hi iz0 iz1 iz2 rfl dE (.slice A m c) m cells rfl (HRW.out _ bel) ⟨w1.heap.size,0,none⟩ 1 1 [.slice Ak x.kb.length ck,.int .i64 id,.pointer none] rfl rfl ?_ ?_ ?_ ?_ ?_ ?_);(focus(exact qfb));(focus(simp [Value.oneCell']));(focus(unfold maxLen;omega));(focus omega);(focus(decide));intro v' w3 hown' hgrow hwh
 refine hK.out _ _ ?_;clear hK K
 (try simp only [Act.put,lsi,lsz,lss])
 refine qao (fun K hK=> ?_)
 go_simp
 go_at_call 74;(refine(HTK.out _ _ _ (show Below w.heap.size w ((w1.alloc (.cells #[.slice Ak x.kb.length ck,.int .i64 id,.pointer none] 96)).drew) from bel) hown' hgrow hwh).mono ?_);rintro e w5 ⟨rfl,own5,hL5,hg5⟩;have HL5:=hdQ hL5;have HG5:=hdQ hg5;clear hL5 hg5
 refine hK.out _ _ ?_;clear hK K
 (try simp only [Act.put,lsi,lsz,lss])
 refine qbr ?_;clear hown' hgrow hwh;obtain⟨hS1,hF1,hK1,hl1⟩:=HOv.out n v' HNN.out;have hL1:Lay w5 own5 imm tb mb (.iface ct cv) (qbl t 0 n (t.es n++ [entG x id]) v' (t.es n++ [entG x id]).length) (fun _=>False) (fun i=>L i/\i≠id):=HL5.out.less (fun _ q=>q) (fun i q=>⟨q.1,fun e=>q.2 (by trivial) (by rw [e];simp [entG])⟩)
 have hn1:(qbl t 0 n (t.es n++ [entG x id]) v' (t.es n++ [entG x id]).length).lv n=some 0:=HNN.out;have hn1e:(qbl t 0 n (t.es n++ [entG x id]) v' (t.es n++ [entG x id]).length).es n=t.es n++ [entG x id]:=qaf;have HRf:=hdQ (qj9 HCC.out hL1 hS1 hn1 hK1 (fun b l hb=>by have:=hl1 b l hb;have:=HH.out;omega))
 have HSp:=hdQ (fun t6 imm6 w6 (ha:Pg.Alike (qbl t 0 n (t.es n++ [entG x id]) v' (t.es n++ [entG x id]).length) t6) (hk:Keyed C.un t6 (fun _=>False)) (hL:Lay w6 own5 imm6 tb mb (.iface ct cv) t6 (fun _=>False) (fun i=>L i/\i≠id))=>qvg HCC.out hL (n:=n) (l:=0) ⟨hS1.alike ha,by rw [ha.lv];exact hn1,hF1.alike ha,hk.more (fun _ q=>q.elim),by rw [ha.len,ha.fan];exact hl1 n 0 hn1,by
  rw [ha.len,ha.fan,ha.root,hn1e]
  intro q;have:=(HLo.out n HNN.out).2.1 q
  simp
  show t.fan/2<=_
  omega,fun _ q=>by omega⟩ (by rw [ha.fan];exact HH.out.1) (by rw [ha.fan];exact HH.out.2) (by rw [ha.items];exact HRG.out))
 clear hS1 hF1 hK1 hl1 hL1 hn1 hn1e
 go_wp2_with (first|(go_at_call 75;(with_reducible refine HRf.out.mono ?_);rintro e w6 ⟨rfl,t6,imm6,ha6,hk6,hL6,hG6⟩;have HA6:=hdQ ha6;have HK6:=hdQ hk6;have HL6:=hdQ hL6;have HG6:=hdQ hG6;clear ha6 hk6 hL6 hG6)|(go_at_call 76;(with_reducible refine(HSp.out _ _ _ HA6.out HK6.out HL6.out).mono ?_);rintro e w7 ⟨rfl,t7,own7,imm7,hL7,hS7,hF7,hK7,hI7,hf7,hG7⟩;have HE:=hdQ (show ∃t' own' imm',Lay w7 own' imm' tb mb (.iface ct cv) t' (fun _=>False) (fun i=>L i/\i≠id)/\Shape t' (fun i=>L i/\i≠id)/\Fill t' (fun _=>False)/\Keyed C.un t' (fun _=>False)/\t'.items=t.items/\t'.fan=t.fan/\Grow w w7 own imm own' imm' from ⟨t7,own7,imm7,hL7,hS7,hF7,hK7,hI7.trans HA6.out.items,hf7.trans HA6.out.fan,HG5.out.trans (HG6.out.trans hG7)⟩);clear hL7 hS7 hF7 hK7 hI7 hf7 hG7))
 go_end0
 exact⟨rfl,HE.out⟩
end
end Go.Proofs.YtfnhnjbkkggbeaaGreat

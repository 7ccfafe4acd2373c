/-gist: keys, union.-/
import Derived.Test.YtjopdlmbgidigaaGreatALawsM
import Derived.Test.YtjopdlmbgidigaaGreatAGisT
set_option linter.unusedVariables false
set_option linter.unusedSimpArgs false
set_option maxHeartbeats 4000000
set_option maxRecDepth 20000
namespace Go.Proofs.YtjopdlmbgidigaaGreat
open Go Go.RowKit Pg
theorem Tryz.infoYsG:(Tryz.prog.info? 82).map (fun i=>(i.zero,i.size,i.bytes))=some (some (.slice none 0 0),1,24):=by kernel_rfl
theorem q26 {A:Option Addr} {n c:Nat}:∀v∈ [Value.slice A n c],v.oneCell' =true:=by simp [Value.oneCell']
theorem qvq (lf:Bool) (Z:Nat->Prop) (l:List En) (v:Value) (w:World) (h:w.ownsRow 0 84 3 v l.length (qaq lf l)) (hk:∀e∈l,qdz w Z e.kv e.kb) (hn:l.length<=1000000):
 C9 78 #[v] w fun e w' =>∃s,e=.returned s/\qic w' w.heap.size s (l.map En.kb)/\Below w.heap.size w w' :=by
 obtain⟨i0,hi,iz0,iz1,iz2⟩:=info_parts Tryz.infoYsG;obtain⟨A,c,rfl,hnc,hAn,hAb⟩:=qat h;have HR:=hdQ h;have HK:=hdQ hk;clear h hk hnc hAn hAb;generalize hl:l.length=n at*
 try simp only [gP] at*
 go_enter Tryz.func78,Tryz.ntmps78
 go_wp2_with fail
 go_loopw [2,7] (fun vk vi wr=>∃k:Nat,k<=n/\vi=.int .i64 k/\qic wr w.heap.size vk ((l.take k).map En.kb)/\Below w.heap.size w wr) (fun _ vi _=>n-(Go.RowKit.intOf vi).toNat)
 case atStart=>exact ⟨0,by omega,rfl,qic.nil _ _,bel⟩
 case round=>
  obtain⟨k,hkn,rfl,hK,hb⟩:=hrel
  by_cases hlt:k<n
  case neg=>
   obtain rfl:n=k:=oQ
   rw [zmy oQ] at hK
   have HKS:=hdQ hK;clear hK;go_wp2_with fail;go_ret;exact⟨_,rfl,HKS.out.below bel,bel⟩
  have hk0:(k:Int)<(n:Int):=oQ
  obtain⟨x,hx⟩:∃x,l[k]? =some x:=⟨l[k]'oQ,zby _⟩
  have hr:=HR.out;rw [<-hl] at hr;obtain⟨g,c',hv,hgl,r0,r1,r2⟩:=qcx hr hx;injection hv with hv1 hv2 hv3
  subst hv1 hv3;obtain⟨hc,hf,hz⟩:=bc3 hb;rw [<-hc g _ hgl] at r0 r1 r2;have hgw:g<wr.heap.size:=oQ
  obtain⟨Ak,ck,ekv,hkc,hAk,hBk⟩:=(HK.out x (zjy hx)).bys;have hxl:=(HK.out x (zjy hx)).2.1;rw [ekv] at r0;obtain⟨pz,hpz⟩:∃p,(if lf=true then Value.pointer none else gP x.kid)=.pointer p:=by cases lf<;>exact ⟨_,rfl⟩
  rw [hpz] at r2;clear hpz hc hf;have hBk2:=hBk.tr hb (zhy _);have HCl:=hdQ (fun W (hW:Below wr.heap.size wr W)=>qdy w.heap.size x.kb.length ck Ak x.kb W (hBk2.tr hW hz) (zcy hz hW.size) hxl hkc hAk)
  have HX:=hdQ hx;have HKS:=hdQ hK;have hlk:((l.take k).map En.kb).length=k:=by rw [zyy,List.length_take];omega
  have HLK:=hdQ hlk;clear hr hv2 hBk hBk2 hx hK ekv hkc hAk hlk;obtain⟨Lk,hLk⟩:∃L',(l.take k).map En.kb=L' :=⟨_,rfl⟩;have HLe:=hdQ hLk;rw [hLk] at HKS HLK;clear hLk
  go_wp2_with (first|(go_at_call 28;(with_reducible refine(HCl.out _ bel).mono ?_);rintro e w6 ⟨s6,rfl,ho6,hb6⟩;obtain⟨A6,c6,rfl,hB6,hl6,hn6,hm6⟩:=qa7 ho6;clear hB6 hl6 hn6 hm6;have hb6' :Below wr.heap.size wr w6:=bel;obtain⟨cs,hcs,hkk⟩:=HKS.out.below hb6';have hs6:=qds ho6 (show w.heap.size<=_ by(try simp);omega);have hz6:=hb6.size;(try simp at hz6);have hs7:Below w.heap.size w w6:=bel)|(at_builtin;go_must (refine wpList_append_own _ rfl _ _ 156 rfl w.heap.size 82 i0 (.slice none 0 0) 1 24 Tryz.underlying156 hi iz0 iz1 iz2 rfl dE _ _ _ rfl (hcs.alloc _) ⟨w6.heap.size,0,none⟩ 1 1 [.slice A6 x.kb.length c6] rfl rfl qq5 ?c2 ?c3 ?c4 ?c5 ?_)))
  case c2=>exact q26
  case c3=>rw [HLK.out];unfold maxLen;omega
  case c4=>rw [HLK.out];omega
  case c5=>simp;omega
  intro v' w7 hown' hgrow _
  have hKN:=qti (hcs.alloc _) (fun j u hu=>by
   obtain⟨l',q1,q2⟩:=hkk j u hu
   exact⟨l',q1,q2.alloc _⟩) (hs6.alloc _) hown' hgrow
  have hnx1:Below w.heap.size w w7:=(hs7.alloc (by have:=hs7.size;omega) _).grown hgrow (by have:=hs7.size;simp;omega) (fun k hk=>(hcs.lt k hk).1)
  go_wp2
  go_roundw
  case rel=>
   refine⟨k+1,by omega,by go_num,?_,hnx1⟩
   rw [zwy,HX.out,zfx,HLe.out]
   exact hKN
  case measure=>simp [Go.RowKit.intOf];omega
section
variable {w:World} {own imm:Nat->Prop} {tb mb:Nat} {t:Tr} {H:Nat->Prop} {L:Int->Prop}
theorem qhq {C:Cl} {ct:TypeId} {cv:Value} {fM fC fD fU fS:Nat} (hC:ClAt ct cv C fM fC fD fU fS) (h:Lay w own imm tb mb (.iface ct cv) t H L) {n l:Nat} (hn:t.lv n=some l) (hH:¬ H n) (hm:(t.es n).length<=1000000):
 C9 49 #[gP tb,gP n] w (RetB w (C.un ((t.es n).map En.kb))):=by
 obtain⟨c0,c1,c2,c3,clt⟩:=h.c0;obtain⟨n0,n1,n2,nlt⟩:=h.n0 hn;have hrow:=h.row n l hn hH;have hk:∀e∈t.es n,qdz w imm e.kv e.kb:=fun e he=>h.ekey n l e hn he
 have h256:∀k∈(t.es n).map En.kb,(∀x∈k,x<256)/\k.length<=1000000:=fun k hk' =>by
  obtain⟨e,he,rfl⟩:=zty.1 hk';exact⟨(hk e he).1,(hk e he).2.1⟩
 have HK:=hdQ (fun W (hW:Below w.heap.size w W)=>qvq (decide (l=0)) imm (t.es n) (t.sl n) W (qak hrow (qad hW) sI) (fun e he=>(hk e he).kept (qad hW) sI) hm)
 have hfU:=hC.formU _ (fun k hk=>(h256 k hk).1) fun k hk=>(h256 k hk).2
 have hlen:((t.es n).map En.kb).length=(t.es n).length:=zyy _;have HU:=hdQ (fun W (A:Option Addr) (c:Nat) (hR:qfq W W.heap.size A ((t.es n).map En.kb).length ((t.es n).map En.kb))=>hC.un W W.heap.size c A _ hR (zhy _) (by rw [hlen];exact hm) (fun k hk=>(h256 k hk).1) fun k hk=>(h256 k hk).2)
 have HCl:=hdQ (fun W (A:Option Addr) (c:Nat) (hy:qb8 W W.heap.size A (C.un ((t.es n).map En.kb)).length (C.un ((t.es n).map En.kb))) (h1:(C.un ((t.es n).map En.kb)).length<=c) (h2:A=none->c=0)=>qdy W.heap.size _ c A _ W hy (zhy _) hfU.2 h1 h2)
 have mU:=hC.mU;have eU:=hC.eU;clear h hrow hk h256 hlen hC hfU;generalize (t.es n).map En.kb=K at*;generalize C.un K=U at*;generalize t.sl n=s at*
 try simp only [gP] at*
 go_enter Tryz.func49,Tryz.ntmps49
 go_wp2_with fail;refine qan [0,1,2,3,4,5,6,7,9,10,8,11,12,13] kr kr pq ?_
 simp only [zdy,zey,ldz,lds,bare,qal,lcz,lcs,zay]
 repeat' ((try simp only [Act.put,lsi,lsz,lss]);first|(refine lqx ?_)|(refine qab qaa rfl (fun K hK=> ?_);go_simp;((first|(go_at_call 78;(with_reducible refine(HK.out _ bel).mono ?_);rintro e w1 ⟨s1,rfl,hK1,hb1⟩;obtain⟨A1,c1',rfl,hR1⟩:=ql1 hK1;clear hK1;obtain⟨hc1,hf1,hz1⟩:=bc3 hb1;(try simp at hz1))|((refine(HU.out _ _ _ (hR1.tr bel (zhy _))).mono ?_);rintro e w2 ⟨s2,rfl,ho2,hb2⟩;obtain⟨A2,c2',rfl,hy2,y2,y3,y4⟩:=qa7 ho2;clear ho2;obtain⟨hc2,hf2,hz2⟩:=bc3 hb2;(try simp at hz2))|(go_at_call 28;(with_reducible refine(HCl.out _ _ _ hy2 y4 y3).mono ?_);rintro e w3 ⟨s3,rfl,ho3,hb3⟩;have HO3:=hdQ ho3;clear ho3)|skip)<;>(refine hK.out _ _ bel ?_;clear hK K))))
 (all_goals try simp only [Act.put,lsi,lsz,lss]);all_goals(refine qaf ?_)
 go_wp2;go_ret;exact⟨_,rfl,qa9 HO3.out (by have:=hb1.size;have:=hb2.size;simp at*;omega),bel⟩
end
structure PenAt (t:TypeId) (rv:Value) (fP:Nat):Prop where
 mP : ∀ w,(Go.method 398 t rv "Penalty").run Tryz.prog w = .ok (fP,rv) w
 eP:∀(args:Array Value) (w:World),(callFunc fP args).run Tryz.prog w=.ok (.enter fP args) w
 pen:∀(W:World) (B n c n2 c2:Nat) (A A2:Option Addr) (l l2:List Nat),qb8 W B A n l->(∀x∈l,x<256)->qb8 W B A2 n2 l2->(∀x∈l2,x<256)->B<=W.heap.size->n<=1000000->n<=c->n2<=1000000->n2<=c2->(A=none->c=0)->(A2=none->c2=0)->C9 fP #[rv,.slice A n c,.slice A2 n2 c2] W fun e w' =>∃k:Int,e=.returned (.int .i64 k)/\Below W.heap.size W w'
def lvOf (t:Tr):Value->Nat
 | .pointer (some a)=>(t.lv a.block).getD 0
 | _=>0
section
variable {w:World} {own imm:Nat->Prop} {tb mb:Nat} {t:Tr} {L L' :Int->Prop}
theorem qxz {ct:TypeId} {cv:Value} {fP:Nat} (hP:PenAt ct cv fP) (h:Lay w own imm tb mb (.iface ct cv) t (fun _=>False) L) (hs:Shape t L') (hne:∀b l,t.lv b=some (l+1)->t.es b≠ []) (hlen:∀b l,t.lv b=some l->(t.es b).length<=1000) {kv:Value} {kb:List Nat} (hk:qdz w imm kv kb):
 C9 79 #[gP tb,kv] w fun e w' =>∃n,t.lv n=some 0/\e=.returned (gP n)/\Below w.heap.size w w' :=by
 obtain⟨c0,c1,c2,c3,clt⟩:=h.c0;have HL:=hdQ h;have HS:=hdQ hs;have HNE:=hdQ hne;have HLEN:=hdQ hlen;obtain⟨lr,hlr⟩:=Option.isSome_iff_exists.1 hs.root.1;have hkb:=hk.1;have hkl:=hk.2.1;obtain⟨Ak,ck,rfl,hkc,hAk,hyk⟩:=hk.bys;have HK:=hdQ hkb;have HKL:=hdQ hkl;have HClk:=hdQ (fun W (hW:Below w.heap.size w W)=>qdy w.heap.size kb.length ck Ak kb W (hyk.tr hW (zhy _)) hW.size hkl hkc hAk)
 have HPn:=hdQ hP.pen;have mP:=hP.mP;have eP:=hP.eP;clear h hs hne hlen hk hkb hkl hyk hkc hAk hP
 simp only [gP] at*
 go_enter Tryz.func79,Tryz.ntmps79
 go_wp2_with fail
 go_loopw [5] (fun vn wr=>∃n l,vn=.pointer (some ⟨n,0,none⟩)/\t.lv n=some l/\Below w.heap.size w wr) (fun vn _=>lvOf t vn)
 case atStart=>exact ⟨_,_,rfl,hlr,bel⟩
 case round=>
  obtain⟨n,l,rfl,hn,hb⟩:=hrel;obtain⟨n0,n1,n2,nlt⟩:=(HL.out.tr hb).n0 hn
  cases l with
  | zero=>
    simp only [decide_true] at n1;have HN:=hdQ hn;clear hn hlr;go_wp2_with fail;go_ret;exact⟨n,HN.out,rfl,bel⟩
  | succ l=>
    rw [show decide (l+1=0)=false by simp] at n1
    have hrow:=(HL.out.tr hb).row n (l+1) hn (fun q=>q)
    rw [show decide (l+1=0)=false by simp] at hrow
    have HROW:=hdQ (HL.out.row n (l+1) hn (fun q=>q))
    rw [show decide (l+1=0)=false by simp] at HROW
    obtain⟨A,c,hsl,hnc,hAn,hAb⟩:=qat hrow;rw [hsl] at n2;have hm:=HLEN.out n (l+1) hn;have hm0:0<(t.es n).length:=List.length_pos_iff.2 (HNE.out n l hn);have HN:=hdQ hn;have HSL:=hdQ hsl;clear hn hlr hrow hsl hnc hAn hAb;obtain⟨m,hmm⟩:∃m,(t.es n).length=m:=⟨_,rfl⟩;have HM:=hdQ hmm;rw [hmm] at n2 hm hm0 HROW;clear hmm;go_wp2_with fail;refine qdt (fun w2=>Below w.heap.size w w2) bel ?_
    clear hb n0 n1 n2 nlt;rintro w2 hb2
    go_loopw [6,7,25] (fun vb vp vi wr=>∃(b k:Nat) (p:Int),vb=.int .i64 b/\vp=.int .i64 p/\vi=.int .i64 k/\k<=m/\(b<k\/b=0)/\Below w.heap.size w wr) (fun _ _ vi _=>m-(Go.RowKit.intOf vi).toNat)
    case atStart=>exact ⟨0,0,0,rfl,rfl,rfl,zly _,.inr rfl,bel⟩
    case round=>
     clear hb2;obtain⟨b,k,p,rfl,rfl,rfl,hkm,hbk,hb⟩:=hrel
     by_cases hlt:k<m
     case neg=>
      obtain rfl:m=k:=oQ
      obtain⟨n0,n1,n2,nlt⟩:=(HL.out.tr hb).n0 HN.out;rw [HSL.out,HM.out] at n2;obtain⟨x,hx⟩:∃x,(t.es n)[b]? =some x:=⟨(t.es n)[b]'(by rw [HM.out];omega),zby _⟩
      have hr:=HROW.out;rw [<-HM.out] at hr;obtain⟨g,c',hv,hgl,r0,r1,r2⟩:=qcx hr hx;rw [HSL.out] at hv;injection hv with hv1 hv2 hv3
      subst hv1 hv3;obtain⟨hc,hf,hz⟩:=bc3 hb;rw [<-hc g _ hgl] at r0 r1 r2;simp only [Bool.false_eq_true,if_false,gP] at r2;have hgw:g<wr.heap.size:=oQ
      have hbm:(b:Int)<(m:Int):=oQ
      have hkid:=(HS.out.kid n l x HN.out (zjy hx)).1;have HKD:=hdQ hkid;have hlv:lvOf t (.pointer (some ⟨n,0,none⟩))=l+1:=by simp [lvOf,HN.out]
      have HLV:=hdQ hlv;clear hr hv2 hx hkid hlv hc hf;go_wp2_with fail
      go_roundw
      case rel=>exact ⟨_,_,rfl,HKD.out,bel⟩
      case measure=>rw [HLV.out];simp [lvOf,HKD.out]
     have hk0:(k:Int)<(m:Int):=oQ
     obtain⟨x,hx⟩:∃x,(t.es n)[k]? =some x:=⟨(t.es n)[k]'(by rw [HM.out];omega),zby _⟩
     have hr:=HROW.out;rw [<-HM.out] at hr;obtain⟨g,c',hv,hgl,r0,r1,r2⟩:=qcx hr hx;rw [HSL.out] at hv;injection hv with hv1 hv2 hv3
     subst hv1 hv3;obtain⟨hc,hf,hz⟩:=bc3 hb;rw [<-hc g _ hgl] at r0 r1 r2;rw [<-hc tb _ clt] at c0;have clt' :tb<wr.heap.size:=oQ
     simp only [Bool.false_eq_true,if_false,gP] at r2;have hgw:g<wr.heap.size:=oQ
     have hKx:=HL.out.ekey n (l+1) x HN.out (zjy hx);have hx256:=hKx.1;have hxl:=hKx.2.1;obtain⟨Ax,cx,ekv,hxc,hAx,hyx⟩:=hKx.bys;rw [ekv] at r0;have HX2:=hdQ hx256;have HXL:=hdQ hxl;have HClx:=hdQ (fun W (hW:Below wr.heap.size wr W)=>qdy w.heap.size x.kb.length cx Ax x.kb W (hyx.tr (hb.trans (hW.mono hz)) (zhy _)) (zcy hz hW.size) hxl hxc hAx)
     clear hr hv2 hx hKx hx256 hxl ekv hxc hAx hyx hc hf;go_wp2_with fail;refine qan [0,1,2,3,4,5,7,9,10,6,8,11,12] kr kr pq ?_
     simp only [zdy,zey,ldz,lds,bare,qal,lcz,lcs,zay]
     repeat' ((try simp only [Act.put,lsi,lsz,lss]);first|(refine lqx ?_)|(refine qab qaa rfl (fun K hK=> ?_);go_simp;((first|(go_at_call 28;(with_reducible refine(HClx.out _ bel).mono ?_);rintro e w4 ⟨s4,rfl,ho4,hb4⟩;obtain⟨A4,c4,rfl,hy4,y42,y43,y44⟩:=qa7 ho4;clear ho4 y42;obtain⟨hc4,hf4,hz4⟩:=bc3 hb4;(try simp at hz4))|(go_at_call 28;(with_reducible refine(HClk.out _ bel).mono ?_);rintro e w5 ⟨s5,rfl,ho5,hb5⟩;obtain⟨A5,c5,rfl,hy5,y52,y53,y54⟩:=qa7 ho5;clear ho5 y52;obtain⟨hc5,hf5,hz5⟩:=bc3 hb5;(try simp at hz5))|((refine(HPn.out _ w5.heap.size _ _ _ _ _ _ _ _ ((hy4.tr bel (zhy _)).more oQ) HX2.out (hy5.tr bel (zhy _)) HK.out oQ HXL.out y44 HKL.out y54 y43 y53).mono ?_);rintro e w6 ⟨p',rfl,hb6⟩;obtain⟨hc6,hf6,hz6⟩:=bc3 hb6;(try simp at hz6))|skip)<;>(refine hK.out _ _ bel ?_;clear hK K))))
     (all_goals try simp only [Act.put,lsi,lsz,lss]);all_goals(refine qaf ?_)
     have hbn:Below w.heap.size w w6:=bel;have hkm1:k+1<=m:=oQ
     by_cases hk1:(k:Int)=0
     · have hk2:((k:Int)==0)=true:=by rw [hk1];rfl
       have HK1:=hdQ hk1;clear hk1;go_wp2_with fail
       go_roundw
       case rel=>exact ⟨k,k+1,p',rfl,rfl,by go_num,hkm1,by omega,bel⟩
       case measure=>simp [Go.RowKit.intOf];omega
     · have hk2:((k:Int)==0)=false:=by rw [beq_eq_false_iff_ne];exact hk1
       by_cases hp:p' <p
       · go_wp2_with fail
         go_roundw
         case rel=>exact ⟨k,k+1,p',rfl,rfl,by go_num,hkm1,by omega,bel⟩
         case measure=>simp [Go.RowKit.intOf];omega
       · go_wp2_with fail
         go_roundw
         case rel=>exact ⟨b,k+1,p,rfl,rfl,by go_num,hkm1,by omega,bel⟩
         case measure=>simp [Go.RowKit.intOf];omega
end
end Go.Proofs.YtjopdlmbgidigaaGreat

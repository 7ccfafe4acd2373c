/-Contracts of package ring: next.-/
import Derived.Test.YtfnhnjbkkggbeaaGreatHMBox
import Derived.OwnWalk
set_option linter.unusedVariables false
set_option linter.unusedSimpArgs false
set_option maxHeartbeats 2000000
set_option maxRecDepth 20000
namespace Go.Proofs.YtfnhnjbkkggbeaaGreat
open Go.RowKit Pg
theorem qom (B n c i:Nat) (A:Option Addr) (l:List Pt) (w:World) (hl:qak w B A n l) (hB:B<=w.heap.size) (hn:n<=1000000) (hi:i<n):
 C9 95 #[.slice A n c,.int .i64 i] w (Ret w (ptV (nx l i).x (nx l i).y)):=by
 have hm:(i+1)%n<n:=Nat.mod_lt _ oQ
 obtain⟨b,off,rfl,hab,c0,c1⟩:=hl.at_ hm;have hbw:b<w.heap.size:=oQ
 have hn0:((n:Int)==0)=false:=by rw [beq_eq_false_iff_ne];omega
 have hm0:(0:Int)<=((i:Int)+1)%(n:Int):=Int.emod_nonneg _ oQ
 have hm1:((i:Int)+1)%(n:Int)<(n:Int):=Int.emod_lt_of_pos _ oQ
 have hx:nx l i=pt l ((i+1)%n):=by rw [nx,hl.1]
 have HX:=hdQ hx;clear hx
 go_enter Tryz.func95,Tryz.ntmps95
 go_wp2;exact bodyPost_ret (v:=ptV (nx l i).x (nx l i).y) (by simp [results,Tryz.results95,go_sem,HX.out]) rfl ⟨rfl,bel⟩
theorem modC (i n:Nat):((i:Int)+1)%(n:Int)=(((i+1)%n:Nat):Int):=by
 rw [Int.natCast_emod];rfl
theorem q62 {i k n:Nat} (h:(i+1)%n=k):(((i:Int)+1)%(n:Int)==(k:Int))=true:=by
 rw [modC,h];simp
theorem q63 {i k n:Nat} (h:(i+1)%n≠k):(((i:Int)+1)%(n:Int)==(k:Int))=false:=by
 rw [modC,beq_eq_false_iff_ne];omega
theorem qpo (B n c i k:Nat) (A:Option Addr) (l:List Pt) (w:World) (hl:qak w B A n l) (hB:B<=w.heap.size) (hn:n<=1000000) (hi:i<n) (hk:k<n):
 C9 109 #[.slice A n c,.int .i64 i,.int .i64 k] w (Ret w (.bool (qmq l i k))):=by
 obtain⟨b,off,rfl,hab,c0,c1⟩:=hl.at_ hi;obtain⟨_,_,ho,_,d0,d1⟩:=hl.at_ hk;injection ho with ho
 injection ho with ho1 ho2
 subst ho1 ho2;have hbw:b<w.heap.size:=oQ
 have hi0:(i:Int)<(n:Int):=oQ
 have hk0:(k:Int)<(n:Int):=oQ
 go_enter Tryz.func109,Tryz.ntmps109
 go_wp2_with fail;refine qbf [0,1,2,3,4,5,6,7,8,9,10,11,12,13] [14,15,16,17] [18,19,20,21] (fun _=> #[.int .i64 0,.int .i64 0]) kr kr pq (by intro i hi w;simp only [List.mem_cons,List.not_mem_nil,or_false] at hi;rcases hi with rfl|rfl|rfl|rfl<;>simp only [ldz,lds,tyOf]<;>kernel_rfl) (fun KN hKN=> ?_)
 simp only [zdy,zey,ldz,lds,bare,qaj,lcz,lcs,zay]
 repeat((try simp only [Act.put,lsi,lsz,lss]);first|(refine qdj (v:= ?_) rfl ?_ ?_;rotate_left;focus(intro wq hq;obtain⟨hcq,hfq⟩:=qbb hq;go_simp;try with_reducible rfl))|(refine qdz (v:= ?_) rfl ?_ ?_;rotate_left;focus(intro wq hq K hK;obtain⟨hcq,hfq⟩:=qbb hq;go_simp;(first|(go_at_call 95;refine(qom B n c _ _ l _ (hl.below (hq.mono hB)) (by have:=hq.size;omega) hn (by assumption)).monoR ?_;rintro w1 hb1 hc1 hf1 hz1;(try simp at hz1)));refine hK.out _ _ ?_ bel;simp only [Act.put,lsi,lsz,lss];try with_reducible rfl)))
 (try simp only [Act.put,lsi,lsz,lss])
 refine qes (hKN.out _ ?_);clear hKN KN;intro gs wf hwf hgs hds
 simp only [zdy,zey,ldz,lds,bare,qaj,lcz,lcs,zay,List.foldl_cons,List.foldl_nil,ptrV]
 obtain⟨hg14,HB14⟩:=hgs 14 dE
 obtain⟨hg15,HB15⟩:=hgs 15 dE
 obtain⟨hg16,HB16⟩:=hgs 16 dE
 obtain⟨hg17,HB17⟩:=hgs 17 dE
 have hd14x15:=hds 14 dE 15 dE dE
 have hd14x16:=hds 14 dE 16 dE dE
 have hd14x17:=hds 14 dE 17 dE dE
 have hd15x16:=hds 15 dE 16 dE dE
 have hd15x17:=hds 15 dE 17 dE dE
 have hd16x17:=hds 16 dE 17 dE dE
 simp only [ldz,lds,tyOf] at HB14 HB15 HB16 HB17;clear hgs hds;generalize gs 14=g14 at*;generalize gs 15=g15 at*;generalize gs 16=g16 at*;generalize gs 17=g17 at*;have cg14:=HB14.cell;have fg14:=HB14.frozen;have cg15:=HB15.cell;have fg15:=HB15.frozen;have cg16:=HB16.cell;have fg16:=HB16.frozen;have cg17:=HB17.cell;have fg17:=HB17.frozen;have hd15x14:=Ne.symm hd14x15;have hd16x14:=Ne.symm hd14x16;have hd17x14:=Ne.symm hd14x17;have hd16x15:=Ne.symm hd15x16;have hd17x15:=Ne.symm hd15x17;have hd17x16:=Ne.symm hd16x17
 repeat((try simp only [Act.put,lsi,lsz,lss]);first|(refine qab qaa rfl (fun K hK=> ?_);go_simp;refine hK.out _ _ bel ?_;clear hK K)|(refine qba (v:= ?_) qaa rfl ?_ ?_;rotate_left;focus(intro wq hq;go_simp;try with_reducible rfl)))
 refine qad ?_;refine qb3 (R:=fun w2=>Below w.heap.size w w2/\Blk w2 g14 46 #[.int .i64 (pt l i).x,.int .i64 (pt l i).y]/\Blk w2 g15 46 #[.int .i64 (nx l i).x,.int .i64 (nx l i).y]/\Blk w2 g16 46 #[.int .i64 (pt l k).x,.int .i64 (pt l k).y]/\Blk w2 g17 46 #[.int .i64 (nx l k).x,.int .i64 (nx l k).y]) ⟨bel,((((((((HB14.set_ 0 _).set_ 1 _).far (p:=⟨g15,0,none⟩) hd14x15 _).far (p:=⟨g15,1,none⟩) hd14x15 _).far (p:=⟨g16,0,none⟩) hd14x16 _).far (p:=⟨g16,1,none⟩) hd14x16 _).far (p:=⟨g17,0,none⟩) hd14x17 _).far (p:=⟨g17,1,none⟩) hd14x17 _).eq_ sI,((((((((HB15.far (p:=⟨g14,0,none⟩) hd15x14 _).far (p:=⟨g14,1,none⟩) hd15x14 _).set_ 0 _).set_ 1 _).far (p:=⟨g16,0,none⟩) hd15x16 _).far (p:=⟨g16,1,none⟩) hd15x16 _).far (p:=⟨g17,0,none⟩) hd15x17 _).far (p:=⟨g17,1,none⟩) hd15x17 _).eq_ sI,((((((((HB16.far (p:=⟨g14,0,none⟩) hd16x14 _).far (p:=⟨g14,1,none⟩) hd16x14 _).far (p:=⟨g15,0,none⟩) hd16x15 _).far (p:=⟨g15,1,none⟩) hd16x15 _).set_ 0 _).set_ 1 _).far (p:=⟨g17,0,none⟩) hd16x17 _).far (p:=⟨g17,1,none⟩) hd16x17 _).eq_ sI,((((((((HB17.far (p:=⟨g14,0,none⟩) hd17x14 _).far (p:=⟨g14,1,none⟩) hd17x14 _).far (p:=⟨g15,0,none⟩) hd17x15 _).far (p:=⟨g15,1,none⟩) hd17x15 _).far (p:=⟨g16,0,none⟩) hd17x16 _).far (p:=⟨g16,1,none⟩) hd17x16 _).set_ 0 _).set_ 1 _).eq_ sI⟩ ?_
 rintro w2 ⟨hb2,h14,h15,h16,h17⟩;clear cg14 fg14 HB14 cg15 fg15 HB15 cg16 fg16 HB16 cg17 fg17 HB17;have cg14:=h14.cell;have fg14:=h14.frozen;have lg14:=h14.lt;have cg15:=h15.cell;have fg15:=h15.frozen;have lg15:=h15.lt;have cg16:=h16.cell;have fg16:=h16.frozen;have lg16:=h16.lt;have cg17:=h17.cell;have fg17:=h17.frozen;have lg17:=h17.lt;obtain⟨hc2,hf2⟩:=qbb hb2
 have HS:Hid (qmq l i k=if pt l i=pt l k then true else if (i+1)%n=k then onS ⟨(pt l i).x,(pt l i).y⟩ ⟨(nx l i).x,(nx l i).y⟩ ⟨(nx l k).x,(nx l k).y⟩||onS ⟨(pt l k).x,(pt l k).y⟩ ⟨(nx l k).x,(nx l k).y⟩ ⟨(pt l i).x,(pt l i).y⟩
  else if (k+1)%n=i then onS ⟨(pt l k).x,(pt l k).y⟩ ⟨(nx l k).x,(nx l k).y⟩ ⟨(nx l i).x,(nx l i).y⟩||onS ⟨(pt l i).x,(pt l i).y⟩ ⟨(nx l i).x,(nx l i).y⟩ ⟨(pt l k).x,(pt l k).y⟩
  else qbr ⟨(pt l i).x,(pt l i).y⟩ ⟨(nx l i).x,(nx l i).y⟩ ⟨(pt l k).x,(pt l k).y⟩ ⟨(nx l k).x,(nx l k).y⟩):=by unfold Hid qmq;rw [hl.1]
 clear h14 h15 h16 h17 c0 c1 d0 d1 hwf hc2 hf2 hd14x15 hd14x16 hd14x17 hd15x16 hd15x17 hd16x17 hd15x14 hd16x14 hd17x14 hd16x15 hd17x15 hd17x16
 by_cases he:pt l i=pt l k
 · have ex:(pt l i).x=(pt l k).x:=by rw [he]
   have ey:(pt l i).y=(pt l k).y:=by rw [he]
   have HE:=hdQ he;clear he;go_wp2_with fail;go_ret;exact⟨qaf (by rw [HS.out,if_pos HE.out]),bel⟩
 · have hne:¬ ((pt l i).x=(pt l k).x/\(pt l i).y=(pt l k).y):=fun h=>he (Pt.ext' h.1 h.2)
   have HE:=hdQ he;clear he
   by_cases h1:(i+1)%n=k
   · have hb1:=q62 h1
     have HM:=hdQ h1;clear h1
     go_wp2_with (go_at_call 130;refine(quf _ _ _ _ _ _ _).monoR ?_;rintro w1 hb1 hc1 hf1 hz1;(try simp at hz1);(have ly14:g14<w1.heap.size:=oQ);(have ly16:g16<w1.heap.size:=oQ);have ly17:g17<w1.heap.size:=oQ)
     all_goals go_ret
     all_goals exact⟨qaf (by rw [HS.out,if_neg HE.out,if_pos HM.out];simp [*]),bel⟩
   · have hb1:=q63 h1
     have HM:=hdQ h1;clear h1
     by_cases h2:(k+1)%n=i
     · have hb2:=q62 h2
       have HM2:=hdQ h2;clear h2
       go_wp2_with (go_at_call 130;refine(quf _ _ _ _ _ _ _).monoR ?_;rintro w1 hb1 hc1 hf1 hz1;(try simp at hz1);(have ly14:g14<w1.heap.size:=oQ);(have ly15:g15<w1.heap.size:=oQ);(have ly16:g16<w1.heap.size:=oQ);have ly17:g17<w1.heap.size:=oQ)
       all_goals go_ret
       all_goals exact⟨qaf (by rw [HS.out,if_neg HE.out,if_neg HM.out,if_pos HM2.out];simp [*]),bel⟩
     · have hb2:=q63 h2
       have HM2:=hdQ h2;clear h2
       go_wp2_with (go_at_call 139;refine(qoq _ _ _ _ _ _ _ _ _).monoR ?_;rintro w1 hb1 hc1 hf1 hz1;(try simp at hz1))
       all_goals go_ret
       all_goals exact⟨qaf (by rw [HS.out,if_neg HE.out,if_neg HM.out,if_neg HM2.out];try simp [*]),bel⟩
def qqt (g:Nat):Value:=.iface 122 (.pointer (some ⟨g,0,none⟩))
def ErrR (w:World) (v:Value) (k:Nat):Prop:=(k=0/\v=.nilIface)\/(k≠0/\∃(g:Nat) (s:ByteArray) (id:Int),v=qqt g/\Blk w g 124 #[.string s,.int .i64 id,errV k])
def q7u (w:World) (k:Nat):Ending->World->Prop:=fun e w' =>∃v,e=.returned v/\ErrR w' v k/\Below w.heap.size w w'
theorem qmk (i k:Int) (w:World):
 C9 108 #[.int .i64 i,.iface 75 (.int .i64 k)] w fun e w' =>e=.returned (qqt w.heap.size)/\w.alloc (.cells #[.string ⟨#[114,105,110,103]⟩,.int .i64 i,.iface 75 (.int .i64 k)] 124)=w' :=by
 go_enter Tryz.func108,Tryz.ntmps108
 go_wp2;go_ret;exact⟨rfl,rfl⟩
def badP (l:List Pt) (i k:Nat):Bool:=decide (k≠i)&&qmq l i k
theorem qvm {l:List Pt} {i k:Nat} (hi:i<l.length) (hk:k<l.length) (h:badP l i k=true):qeq l=true:=
 qb8 _ _ i hi (qb8 _ _ k hk h)
theorem qvn {l:List Pt} (h:∀i,i<l.length->∀k,k<l.length->badP l i k=false):qeq l=false:=
 qb1 _ _ fun i hi=>qb1 _ _ fun k hk=>h i hi k hk
theorem qjb (B n c:Nat) (A:Option Addr) (l:List Pt) (w:World) (hl:qak w B A n l) (hB:B<=w.heap.size) (hn:n<=1000000):
 C9 78 #[.slice A n c] w (q7u w (qbi l)):=by
 by_cases hlen:n<3\/64<n
 · have HK:Hid (qbi l=3):=by unfold Hid qbi;rw [hl.1,if_pos hlen]
   have e3:Hid (errV 3=.iface 75 (.int .i64 3)):=rfl
   rcases hlen with h|h
   all_goals
    go_enter Tryz.func78,Tryz.ntmps78
    go_wp2_with (go_at_call 108;refine(qmk _ 3 _).mono ?_;rintro e w1 ⟨rfl,rfl⟩)
    go_ret;exact⟨_,rfl,.inr ⟨by rw [HK.out];decide,_,_,_,rfl,by rw [HK.out];exact Blk.new rfl rfl⟩,bel⟩
 · have h3:3<=n:=oQ
   have h64:n<=64:=oQ
   clear hlen;have hd3:decide ((n:Int)<3)=false:=by simp;omega
   have hd64:decide ((64:Int)<(n:Int))=false:=by simp;omega
   have HK:Hid (qbi l=if l.all okPt then(if qeq l then 4 else 0) else 2):=by unfold Hid qbi;rw [hl.1,if_neg oQ]
   go_enter Tryz.func78,Tryz.ntmps78
   go_wp2
   go_loopw [22] (fun i wr=>∃k:Nat,k<=n/\i=.int .i64 k/\(l.take k).all okPt=true/\Below w.heap.size w wr) (fun i _=>n-(intOf i).toNat)
   case atStart=>exact ⟨0,zly _,rfl,by simp,Below.refl _ _⟩
   case round=>
    obtain⟨k,hk,rfl,hall,hb⟩:=hrel
    by_cases hlt:k<n
    · obtain⟨b,off,rfl,hab,c0,c1⟩:=(hl.below (hb.mono hB)).at_ hlt
      have Hp:=hdQ (qbc okPt l k _ (qkd (by rw [hl.1];exact hlt)))
      have Hf:=hdQ (qej okPt l k _ (qkd (by rw [hl.1];exact hlt)))
      have Ha:=hdQ hall;clear hall
      cases hx:okPt (pt l k)
      case true=>
       have HE:Hid (errV (if okPt ⟨(pt l k).x,(pt l k).y⟩=true then 0 else 2)=.nilIface):=by unfold Hid;rw [show (⟨(pt l k).x,(pt l k).y⟩:Pt)=pt l k from rfl,hx];rfl
       have Hx:=hdQ hx;clear hx
       go_wp2_with (go_at_call 32;refine(qay _ _ _).mono ?_;rw [HE.out];rintro e w1 ⟨rfl,hb1⟩;obtain⟨hc1,hf1,hz1⟩:=bc3 hb1;(try simp at hz1))
       go_roundw
       case rel=>exact ⟨k+1,by omega,by go_num,by rw [Hp.out,Ha.out,Hx.out];rfl,bel⟩
       case measure=>simp [intOf];omega
      case false=>
       have HE:Hid (errV (if okPt ⟨(pt l k).x,(pt l k).y⟩=true then 0 else 2)=.iface 75 (.int .i64 2)):=by unfold Hid;rw [show (⟨(pt l k).x,(pt l k).y⟩:Pt)=pt l k from rfl,hx];rfl
       have HK2:Hid (qbi l=2):=by unfold Hid;rw [HK.out,Hf.out hx];rfl
       clear hx
       go_wp2_with (first|(go_at_call 32;refine(qay _ _ _).mono ?_;rw [HE.out];rintro e w1 ⟨rfl,hb1⟩;obtain⟨hc1,hf1,hz1⟩:=bc3 hb1;(try simp at hz1))|(go_at_call 108;refine(qmk _ _ _).mono ?_;rintro e w2 ⟨rfl,rfl⟩))
       go_ret;exact⟨_,rfl,.inr ⟨by rw [HK2.out];decide,_,_,_,rfl,by rw [HK2.out];exact Blk.new rfl rfl⟩,bel⟩
    · have hkn:l.length<=k:=by rw [hl.1];omega
      rw [zmy hkn] at hall;have HK2:Hid (qbi l=if qeq l then 4 else 0):=by unfold Hid;rw [HK.out,hall];rfl
      clear hall;obtain⟨wo,hwo⟩:∃wo:World,wo=wr:=⟨_,rfl⟩;subst hwo;go_wp2
      go_loopw [36] (fun i wr=>∃k:Nat,k<=n/\i=.int .i64 k/\Hid (∀j,j<k->∀m,m<n->badP l j m=false)/\Below w.heap.size w wr) (fun i _=>n-(intOf i).toNat)
      case atStart=>exact ⟨0,zly _,rfl,fun j hj=>by omega,hb⟩
      case round=>
       obtain⟨i,hi,rfl,hbad,hb2⟩:=hrel
       by_cases hil:i<n
       · obtain⟨wp,hwp⟩:∃wp:World,wp=wr:=⟨_,rfl⟩
         subst hwp;go_wp2
         go_loopw [40] (fun i2 wr=>∃m:Nat,m<=n/\i2=.int .i64 m/\Hid (∀j,j<m->badP l i j=false)/\Below w.heap.size w wr) (fun i2 _=>n-(intOf i2).toNat)
         case atStart=>exact ⟨0,zly _,rfl,fun j hj=>by omega,hb2⟩
         case round=>
          obtain⟨m,hm,rfl,hbm,hb3⟩:=hrel
          by_cases hml:m<n
          · by_cases hmi:m=i
            · have hne:((m:Int) !=(i:Int))=false:=by rw [hmi];simp
              have HM:=hdQ hmi;clear hmi;go_wp2
              go_roundw
              case rel=>exact ⟨m+1,by omega,by go_num,fun j hj=>by
               by_cases e:j=m
               · subst e;simp [badP,HM.out]
               · exact hbm.out j oQ,bel⟩
              case measure=>simp [intOf];omega
            · have hne:((m:Int) !=(i:Int))=true:=by simp;omega
              have HM:=hdQ hmi;clear hmi;have hB3:B<=wr.heap.size:=by have:=hb3.size;omega
              cases hs:qmq l i m
              · have HS:=hdQ hs
                go_wp2_with (go_at_call 109;refine(qpo B n c i m A l _ (hl.below (hb3.mono hB)) (by assumption) hn (by assumption) (by assumption)).mono ?_;rw [HS.out];rintro e w1 ⟨rfl,hb1⟩;obtain⟨hc1,hf1,hz1⟩:=bc3 hb1;(try simp at hz1))
                go_roundw
                case rel=>exact ⟨m+1,by omega,by go_num,fun j hj=>by
                 by_cases e:j=m
                 · subst e;simp [badP,HS.out]
                 · exact hbm.out j oQ,bel⟩
                case measure=>simp [intOf];omega
              · have HS:=hdQ hs
                have HK3:Hid (qbi l=4):=by unfold Hid;rw [HK2.out,qvm (i:=i) (k:=m) (by rw [hl.1];exact hil) (by rw [hl.1];exact hml) (by simp [badP,HM.out,HS.out])];rfl
                go_wp2_with (first|(go_at_call 109;refine(qpo B n c i m A l _ (hl.below (hb3.mono hB)) (by assumption) hn (by assumption) (by assumption)).mono ?_;rw [HS.out];rintro e w1 ⟨rfl,hb1⟩;obtain⟨hc1,hf1,hz1⟩:=bc3 hb1;(try simp at hz1))|(go_at_call 108;refine(qmk _ _ _).mono ?_;rintro e w2 ⟨rfl,rfl⟩))
                go_ret;exact⟨_,rfl,.inr ⟨by rw [HK3.out];decide,_,_,_,rfl,by rw [HK3.out];exact Blk.new rfl rfl⟩,bel⟩
          · go_wp2
            go_roundw
            case rel=>exact ⟨i+1,by omega,by go_num,fun j hj q hq=>by
             by_cases e:j=i
             · subst e;exact hbm.out q oQ
             · exact hbad.out j oQ q hq,bel⟩
            case measure=>simp [intOf];omega
       · have HK3:Hid (qbi l=0):=by unfold Hid;rw [HK2.out,qvn (fun j hj m hm=>hbad.out j (by rw [hl.1] at hj;omega) m (by rw [<-hl.1];exact hm))];rfl
         go_wp2;go_ret;exact⟨_,rfl,.inl ⟨HK3.out,rfl⟩,bel⟩
theorem qu1 (B n c:Nat) (px py:Int) (A:Option Addr) (l:List Pt) (w:World) (hl:qak w B A n l) (hB:B<=w.heap.size) (hn:n<=1000000):
 C9 94 #[.slice A n c,ptV px py] w (Ret w (.bool (qs2 l ⟨px,py⟩))):=by
 go_enter Tryz.func94,Tryz.ntmps94
 go_wp2
 go_loopw [8] (fun i wr=>∃k:Nat,k<=n/\i=.int .i64 k/\Hid (∀j,j<k->onS (pt l j) (nx l j) ⟨px,py⟩=false)/\Blk wr w.heap.size 46 #[.int .i64 px,.int .i64 py]/\Below w.heap.size w wr) (fun i _=>n-(intOf i).toNat)
 case atStart=>exact ⟨0,zly _,rfl,fun j hj=>by omega,Blk.new rfl rfl,bel⟩
 case round=>
  obtain⟨k,hk,rfl,hno,hP,hb⟩:=hrel
  by_cases hlt:k<n
  · obtain⟨b,off,rfl,hab,c0,c1⟩:=(hl.below (hb.mono hB)).at_ hlt
    have hPl:=hP.lt;have hPc:=hP.cell;have hbw:b<wr.heap.size:=oQ
    have hk0:(k:Int)<(n:Int):=oQ
    go_wp2_with fail;refine qah [0,1,2,3,4,5,7,6,8] kr kr pq ?_
    simp only [zdy,zey,ldz,lds,bare,qaj,lcz,lcs,zay]
    repeat' ((try simp only [Act.put,lsi,lsz,lss]);first|(refine lqx ?_)|(refine qab qaa rfl (fun K hK=> ?_);go_simp;((first|(go_at_call 95;refine(qom B n c k _ l _ (hl.tr bel hB) (bsz w hB) hn hlt).monoR ?_;rintro w1 hb1 hc1 hf1 hz1;(try simp at hz1);have hy0:=ol1 w w1)|(go_at_call 130;refine(quf _ _ _ _ _ _ _).monoR ?_;rintro w1 hb1 hc1 hf1 hz1;(try simp at hz1);have hy0:=ol1 w w1)|skip)<;>(refine hK.out _ _ bel ?_;clear hK K))))
    (all_goals try simp only [Act.put,lsi,lsz,lss]);all_goals(refine qad ?_)
    go_wp2
    · go_ret
      exact⟨qaf (qb8 _ (fun j=>onS (pt l j) (nx l j) ⟨px,py⟩) k (by rw [hl.1];exact hlt) (by assumption)).symm,bel⟩
    · have hf:onS ⟨(pt l k).x,(pt l k).y⟩ ⟨(nx l k).x,(nx l k).y⟩ ⟨px,py⟩=false:=by first|assumption|(simpa using (by assumption:¬ onS ⟨(pt l k).x,(pt l k).y⟩ ⟨(nx l k).x,(nx l k).y⟩ ⟨px,py⟩=true))
      have HF:=hdQ hf;clear hf
      go_roundw
      case rel=>exact ⟨k+1,by omega,by go_num,fun j hj=>by
       by_cases e:j=k
       · subst e;exact HF.out
       · exact hno.out j oQ,blkA,bel⟩
      case measure=>simp [intOf];omega
  · have HF:Hid (qs2 l ⟨px,py⟩=false):=qb1 _ _ fun j hj=>hno.out j (by rw [hl.1] at hj;omega)
    go_wp2;go_ret;exact⟨qaf HF.out.symm,hb⟩
theorem qks (B n c:Nat) (A:Option Addr) (l:List Pt) (w:World) (hl:qak w B A n l) (hB:B<=w.heap.size) (hn:n<=1000000) (h:qbi l=0):
 C9 78 #[.slice A n c] w (Ret w .nilIface):=by
 refine(qjb B n c A l w hl hB hn).mono ?_;rintro e w' ⟨v,he,hv,hb⟩
 rcases hv with ⟨_,hv⟩|⟨hv,_⟩
 · exact⟨by rw [he,hv],hb⟩
 · exact absurd h hv
theorem q0k (B n c:Nat) (A:Option Addr) (l:List Pt) (w:World) (hl:qak w B A n l) (hB:B<=w.heap.size) (hn:n<=1000000) (h:qbi l≠0):
 C9 78 #[.slice A n c] w fun e w' =>∃g,e=.returned (.iface 122 (.pointer (some ⟨g,0,none⟩)))/\Hid (∃(s:ByteArray) (id:Int),Blk w' g 124 #[.string s,.int .i64 id,.iface 75 (.int .i64 (qbi l))])/\Below w.heap.size w w' :=by
 refine(qjb B n c A l w hl hB hn).mono ?_;rintro e w' ⟨v,he,hv,hb⟩
 rcases hv with ⟨hv,_⟩|⟨_,g,s,id,hv,hB'⟩
 · exact absurd hv h
 · exact⟨g,by rw [he,hv];rfl,⟨s,id,by rw [<-qhk h];exact hB'⟩,hb⟩
theorem q4w (n:Int):(0<sgn n)↔0<n:=by
 unfold sgn
 split
 · omega
 · split<;>omega
theorem qs5 (a b p:Pt):qbv a b p=if b.y<a.y then decide (b.y<=p.y)&&decide (p.y<a.y)&&decide (0<qbz b a p) else decide (a.y<=p.y)&&decide (p.y<b.y)&&decide (0<qbz a b p):=by
 unfold qbv qbz
 simp only [q4w]
theorem xor3 {A B C:Prop} [Decidable A] [Decidable B] [Decidable C] {p:Bool} (h:A/\B/\C):Value.bool (!p)=Value.bool (xor p (decide A&&decide B&&decide C)):=by
 rw [decide_eq_true h.1,decide_eq_true h.2.1,decide_eq_true h.2.2];simp
theorem xor0 {A B C:Prop} [Decidable A] [Decidable B] [Decidable C] {p:Bool} (h:¬ (A/\B/\C)):Value.bool p=Value.bool (xor p (decide A&&decide B&&decide C)):=by
 have:(decide A&&decide B&&decide C)=false:=by
  cases hd:(decide A&&decide B&&decide C)
  · rfl
  · simp at hd;exact absurd ⟨hd.1.1,hd.1.2,hd.2⟩ h
 rw [this];simp
theorem qkh (B n c:Nat) (px py:Int) (A:Option Addr) (l:List Pt) (w:World) (hl:qak w B A n l) (hB:B<=w.heap.size) (hn:n<=1000000):
 C9 62 #[.slice A n c,ptV px py] w (Ret w (.bool (rhas l ⟨px,py⟩))):=by
 by_cases hck:qbi l=0
 · cases hp:okPt ⟨px,py⟩
   · have HE:Hid (errV (if okPt ⟨px,py⟩=true then 0 else 2)=.iface 75 (.int .i64 2)):=by unfold Hid;rw [hp];rfl
     have HF:Hid (rhas l ⟨px,py⟩=false):=by unfold Hid rhas;rw [hp];simp
     have HC:=hdQ hck;clear hck hp
     go_enter Tryz.func62,Tryz.ntmps62
     go_wp2_with (first|(go_at_call 78;refine(qks B n c A l _ (hl.tr bel hB) (bsz w hB) hn HC.out).monoR ?_;rintro w1 hb1 hc1 hf1 hz1;(try simp at hz1);have hy0:=ol1 w w1)|(go_at_call 32;refine(qay _ _ _).mono ?_;rw [HE.out];rintro e w1 ⟨rfl,hb1⟩;obtain⟨hc1,hf1,hz1⟩:=bc3 hb1;(try simp at hz1);have hy0:=ol1 w w1))
     go_ret;exact⟨qaf HF.out.symm,bel⟩
   · have HE:Hid (errV (if okPt ⟨px,py⟩=true then 0 else 2)=.nilIface):=by unfold Hid;rw [hp];rfl
     have HF:Hid (rhas l ⟨px,py⟩=(qs2 l ⟨px,py⟩||qc7 l ⟨px,py⟩ l.length)):=by unfold Hid rhas;rw [hp];simp [hck,qr4]
     have HC:=hdQ hck;clear hck hp
     cases he:qs2 l ⟨px,py⟩
     case true=>
      have HG:Hid (rhas l ⟨px,py⟩=true):=by unfold Hid;rw [HF.out,he];rfl
      have HEB:=hdQ he;clear he
      go_enter Tryz.func62,Tryz.ntmps62
      go_wp2_with (first|(go_at_call 78;refine(qks B n c A l _ (hl.tr bel hB) (bsz w hB) hn HC.out).monoR ?_;rintro w1 hb1 hc1 hf1 hz1;(try simp at hz1);have hy0:=ol1 w w1)|(go_at_call 32;refine(qay _ _ _).mono ?_;rw [HE.out];rintro e w1 ⟨rfl,hb1⟩;obtain⟨hc1,hf1,hz1⟩:=bc3 hb1;(try simp at hz1);have hy0:=ol1 w w1)|(go_at_call 94;refine(qu1 B n c _ _ A l _ (hl.tr bel hB) (bsz w hB) hn).mono ?_;rw [HEB.out];rintro e w1 ⟨rfl,hb1⟩;obtain⟨hc1,hf1,hz1⟩:=bc3 hb1;(try simp at hz1);have hy0:=ol1 w w1))
      go_ret;exact⟨qaf HG.out.symm,bel⟩
     case false=>
      have HG:Hid (rhas l ⟨px,py⟩=qc7 l ⟨px,py⟩ l.length):=by unfold Hid;rw [HF.out,he];rfl
      have HEB:=hdQ he;clear he
      go_enter Tryz.func62,Tryz.ntmps62
      go_wp2_with (first|(go_at_call 78;refine(qks B n c A l _ (hl.tr bel hB) (bsz w hB) hn HC.out).monoR ?_;rintro w1 hb1 hc1 hf1 hz1;(try simp at hz1);have hy0:=ol1 w w1)|(go_at_call 32;refine(qay _ _ _).mono ?_;rw [HE.out];rintro e w1 ⟨rfl,hb1⟩;obtain⟨hc1,hf1,hz1⟩:=bc3 hb1;(try simp at hz1);have hy0:=ol1 w w1)|(go_at_call 94;refine(qu1 B n c _ _ A l _ (hl.tr bel hB) (bsz w hB) hn).mono ?_;rw [HEB.out];rintro e w1 ⟨rfl,hb1⟩;obtain⟨hc1,hf1,hz1⟩:=bc3 hb1;(try simp at hz1);have hy0:=ol1 w w1))
      have hP0:Blk w1 w.heap.size 46 #[.int .i64 px,.int .i64 py]:=blkA;have hb0:Below w.heap.size w w1:=bel
      go_loopw [5,22] (fun s i wr=>∃k:Nat,k<=n/\i=.int .i64 k/\s=.bool (qc7 l ⟨px,py⟩ k)/\Blk wr w.heap.size 46 #[.int .i64 px,.int .i64 py]/\Below w.heap.size w wr) (fun _ i _=>n-(intOf i).toNat)
      case atStart=>exact ⟨0,zly _,rfl,rfl,hP0,hb0⟩
      case round=>
       obtain⟨k,hk,rfl,rfl,hP,hb⟩:=hrel
       by_cases hlt:k<n
       · obtain⟨b,off,rfl,hab,c0,c1⟩:=(hl.below (hb.mono hB)).at_ hlt
         have hPl:=hP.lt;have hPc:=hP.cell;have hbs:=hb.size;have hbw:b<wr.heap.size:=oQ
         have hk0:(k:Int)<(n:Int):=oQ
         clear hb0 hP0;go_wp2_with fail;refine qbf [0,1,2,3,4,5,6] [7,8] [9,10] (fun _=> #[.int .i64 0,.int .i64 0]) kr kr pq (by intro i hi w;simp only [List.mem_cons,List.not_mem_nil,or_false] at hi;rcases hi with rfl|rfl<;>simp only [ldz,lds,tyOf]<;>kernel_rfl) (fun KN hKN=> ?_)
         simp only [zdy,zey,ldz,lds,bare,qaj,lcz,lcs,zay]
         repeat((try simp only [Act.put,lsi,lsz,lss]);first|(refine qdj (v:= ?_) rfl ?_ ?_;rotate_left;focus(intro wq hq;obtain⟨hcq,hfq⟩:=qbb hq;go_simp;try with_reducible rfl))|(refine qdz (v:= ?_) rfl ?_ ?_;rotate_left;focus(intro wq hq K hK;obtain⟨hcq,hfq⟩:=qbb hq;go_simp;(first|(go_at_call 95;refine(qom B n c k _ l _ (hl.tr bel hB) (bsz w hB) hn hlt).monoR ?_;rintro w1 hb1 hc1 hf1 hz1;(try simp at hz1)));refine hK.out _ _ ?_ bel;simp only [Act.put,lsi,lsz,lss];try with_reducible rfl)))
         (try simp only [Act.put,lsi,lsz,lss])
         refine qes (hKN.out _ ?_);clear hKN KN;intro gs wf hwf hgs hds
         simp only [zdy,zey,ldz,lds,bare,qaj,lcz,lcs,zay,List.foldl_cons,List.foldl_nil,ptrV]
         obtain⟨hg7,HB7⟩:=hgs 7 dE
         obtain⟨hg8,HB8⟩:=hgs 8 dE
         have hd7x8:=hds 7 dE 8 dE dE
         simp only [ldz,lds,tyOf] at HB7 HB8;clear hgs hds;generalize gs 7=g7 at*;generalize gs 8=g8 at*;have cg7:=HB7.cell;have fg7:=HB7.frozen;have cg8:=HB8.cell;have fg8:=HB8.frozen;have hd8x7:=Ne.symm hd7x8
         repeat((try simp only [Act.put,lsi,lsz,lss]);first|(refine qab qaa rfl (fun K hK=> ?_);go_simp;refine hK.out _ _ bel ?_;clear hK K)|(refine qba (v:= ?_) qaa rfl ?_ ?_;rotate_left;focus(intro wq hq;go_simp;try with_reducible rfl)))
         refine qad ?_;refine qb3 (R:=fun w2=>Below w.heap.size w w2/\Blk w2 g7 46 #[.int .i64 (pt l k).x,.int .i64 (pt l k).y]/\Blk w2 g8 46 #[.int .i64 (nx l k).x,.int .i64 (nx l k).y]/\Blk w2 w.heap.size 46 #[.int .i64 px,.int .i64 py]) ⟨bel,((((HB7.set_ 0 _).set_ 1 _).far (p:=⟨g8,0,none⟩) hd7x8 _).far (p:=⟨g8,1,none⟩) hd7x8 _).eq_ sI,((((HB8.far (p:=⟨g7,0,none⟩) hd8x7 _).far (p:=⟨g7,1,none⟩) hd8x7 _).set_ 0 _).set_ 1 _).eq_ sI,blkA⟩ ?_
         rintro w2 ⟨hb2,h7,h8,hE0⟩;clear cg7 fg7 HB7 cg8 fg8 HB8;have cg7:=h7.cell;have fg7:=h7.frozen;have lg7:=h7.lt;have cg8:=h8.cell;have fg8:=h8.frozen;have lg8:=h8.lt;obtain⟨hc2,hf2⟩:=qbb hb2;have cP:=hE0.cell;have lP:=hE0.lt;have np7:w.heap.size≠g7:=oQ
         have np8:w.heap.size≠g8:=oQ
         have np7' :g7≠w.heap.size:=oQ
         have np8' :g8≠w.heap.size:=oQ
         have HX:Hid (qc7 l ⟨px,py⟩ (k+1)=xor (qc7 l ⟨px,py⟩ k) (qbv ⟨(pt l k).x,(pt l k).y⟩ ⟨(nx l k).x,(nx l k).y⟩ ⟨px,py⟩)):=rfl;clear hwf hc2 hf2 c0 c1 hPc h7 h8
         by_cases hsw:(nx l k).y<(pt l k).y
         all_goals
          go_wp2_with (go_at_call 96;refine(qjq _ _ _ _ _ _ _).monoR ?_;rintro w1 hb1 hc1 hf1 hz1;(try simp at hz1);have hy0:=ol1 w w1)
          all_goals
           go_roundw
           case rel=>exact ⟨k+1,by omega,by go_num,by rw [HX.out,qs5];(first|rw [if_pos (by simpa using hsw)]|rw [if_neg (by simp only [Int.not_lt];simpa using hsw)]);(first|exact xor3 ⟨by(try dsimp only);omega,by(try dsimp only);omega,by(try dsimp only);omega⟩|exact xor0 (by(try dsimp only);omega)),blkA,bel⟩
           case measure=>simp [intOf];omega
       · have HL:Hid (k=n):=by unfold Hid;omega
         have HR:Hid (rhas l ⟨px,py⟩=qc7 l ⟨px,py⟩ k):=by unfold Hid;rw [HG.out,HL.out,hl.1]
         go_wp2;go_ret;exact⟨qaf HR.out.symm,hb⟩
 · have HF:Hid (rhas l ⟨px,py⟩=false):=by unfold Hid rhas;simp [hck]
   have HC:=hdQ hck;clear hck
   go_enter Tryz.func62,Tryz.ntmps62
   go_wp2_with (go_at_call 78;refine(q0k B n c A l _ (hl.tr bel hB) (bsz w hB) hn HC.out).mono ?_;rintro e w1 ⟨g,rfl,hfault,hb1⟩)
   go_ret;exact⟨qaf HF.out.symm,bel⟩
def pbox (p:Pt):Bx:=⟨p,p⟩
def qdc (l:List Bx):List Value:=l.flatMap fun b=> [.int .i64 b.lo.x,.int .i64 b.lo.y,.int .i64 b.hi.x,.int .i64 b.hi.y]
theorem q0w (l:List Bx):∀(k:Nat) (b:Bx),l[k]? =some b->(qdc l)[k*4]? =some (.int .i64 b.lo.x)/\(qdc l)[k*4+1]? =some (.int .i64 b.lo.y)/\(qdc l)[k*4+2]? =some (.int .i64 b.hi.x)/\(qdc l)[k*4+3]? =some (.int .i64 b.hi.y):=by
 induction l with
 | nil=>intro k b h;simp at h
 | cons c r ih=>
   intro k b h
   cases k with
   | zero=>
     simp at h
     subst h
     simp [qdc]
   | succ k=>
     have:=ih k b (by simpa using h)
     simp only [qdc,zvy] at this ⊢
     rw [zdx (by simp;omega),zdx (by simp;omega),zdx (by simp;omega),zdx (by simp;omega)]
     simp only [zax,List.length_nil]
     rw [show (k+1)*4-(0+1+1+1+1)=k*4 by omega,show (k+1)*4+1-(0+1+1+1+1)=k*4+1 by omega,show (k+1)*4+2-(0+1+1+1+1)=k*4+2 by omega,show (k+1)*4+3-(0+1+1+1+1)=k*4+3 by omega]
     exact this
theorem qgi (l:List Bx) (b:Bx):qdc (l++ [b])=qdc l++ [.int .i64 b.lo.x,.int .i64 b.lo.y,.int .i64 b.hi.x,.int .i64 b.hi.y]:=by
 simp [qdc]
theorem qhn {w:World} {base:Nat} {e:TypeId} {v:Value} {n:Nat} {l:List Bx} (h:w.ownsRow base e 4 v n (qdc l)) (hl:l.length=n):
 ∃A c,v=.slice A n c/\qij w w.heap.size A n l:=by
 obtain⟨h1,⟨rfl,rfl⟩|⟨g,cap,cur,rfl,hg,hh,hc⟩⟩:=h
 · exact⟨none,0,rfl,hl,fun h=>absurd h oQ⟩
 · refine⟨_,cap,rfl,hl,fun hn=>⟨g,0,rfl,lt_of_block hh,fun k p hp=> ?_⟩⟩
   have hown:w.ownsRow base e 4 (.slice (some ⟨g,0,none⟩) n cap) n (qdc l):=⟨h1,.inr ⟨g,cap,cur,rfl,hg,hh,hc⟩⟩
   have hk:k<n:=by
    rw [<-hl]
    rcases zry k l.length with h|h
    · exact h
    · rw [zoy h] at hp;cases hp
   have:=q0w l k p hp
   simp only [Nat.zero_add]
   rw [hown.cellAt (k*4) oQ,hown.cellAt (k*4+1) oQ,hown.cellAt (k*4+2) oQ,hown.cellAt (k*4+3) oQ]
   exact this
theorem Tryz.infoBox:(Tryz.prog.info? 48).map (fun i=>(i.zero,i.size,i.bytes))=some (some (.agg #[.int .i64 0,.int .i64 0,.int .i64 0,.int .i64 0]),4,32):=by kernel_rfl
theorem qj9 {l:List Pt} (h:qbi l=0):3<=l.length/\l.length<=64:=by
 unfold qbi at h
 split at h
 · cases h
 · omega
theorem q4g {l:List Pt} (h:qbi l=0):l.all okPt=true:=by
 unfold qbi at h
 split at h
 · cases h
 · split at h
   · assumption
   · cases h
theorem qu9 {p:Pt} (h:okPt p=true):qa4 (pbox p)=0:=by
 have h1:¬ (pbox p).hi.x<(pbox p).lo.x:=by simp [pbox]
 have h2:¬ (pbox p).hi.y<(pbox p).lo.y:=by simp [pbox]
 simp [qa4,pbox,h] at*
theorem qvg {l:List Bx} (h:∀b∈l,qa4 b=0):∀u,(qca u l).2=0:=by
 induction l with
 | nil=>intro u;rfl
 | cons b r ih=>
   intro u
   rw [qca,if_pos (h b sI)]
   exact ih (fun x hx=>h x (by simp [hx])) _
theorem qpw {l:List Pt} (h:qbi l=0):qco (l.map fun p=>⟨p,p⟩)=(qal l,0):=by
 refine Prod.ext rfl ?_;have hl:=qj9 h
 cases l with
 | nil=>simp at hl
 | cons p r=>
   refine qvg (l:=(p::r).map fun p=>⟨p,p⟩) (fun b hb=> ?_) _
   obtain⟨q,hq,rfl⟩:=zty.1 hb;exact qu9 (List.all_eq_true.1 (q4g h) q hq)
theorem qfu (B n c:Nat) (A:Option Addr) (l:List Pt) (w:World) (hl:qak w B A n l) (hB:B<=w.heap.size) (hck:qbi l=0):
 C9 125 #[.slice A n c] w (Ret w (.tuple #[bxV (qal l).lo.x (qal l).lo.y (qal l).hi.x (qal l).hi.y,.nilIface])):=by
 have hn:n<=64:=by have:=qj9 hck;rw [hl.1] at this;omega
 have HC:=hdQ hck;clear hck;obtain⟨i0,hi,iz0,iz1,iz2⟩:=info_parts Tryz.infoBox
 go_enter Tryz.func125,Tryz.ntmps125
 go_wp2_with (go_at_call 78;refine(qks B n c A l _ (hl.tr bel hB) (bsz w hB) oQ HC.out).monoR ?_;rintro w1 hb1 hc1 hf1 hz1;(try simp at hz1);have hy0:=ol1 w w1)
 have hP0:Blk w1 w.heap.size 48 #[.int .i64 0,.int .i64 0,.int .i64 0,.int .i64 0]:=blkA;have hb0:Below w.heap.size w w1:=bel
 go_loopw [5,16] (fun s i wr=>∃k:Nat,k<=n/\i=.int .i64 k/\wr.ownsRow (w.heap.size+1) 48 4 s k (qdc ((l.take k).map pbox))/\Blk wr w.heap.size 48 #[.int .i64 0,.int .i64 0,.int .i64 0,.int .i64 0]/\Below w.heap.size w wr) (fun _ i _=>n-(intOf i).toNat)
 case atStart=>exact ⟨0,zly _,rfl,World.ownsRow_nil _ _ _ _,hP0,hb0⟩
 case round=>
  obtain⟨k,hk,rfl,hown,hP,hb⟩:=hrel
  by_cases hlt:k<n
  · obtain⟨b,off,rfl,hab,c0,c1⟩:=(hl.below (hb.mono hB)).at_ hlt
    have hPl:=hP.lt;have hbs:=hb.size;have hbw:b<wr.heap.size:=oQ
    have hk0:(k:Int)<(n:Int):=oQ
    clear hb0 hP0;have hkl:k<l.length:=by rw [hl.1];exact hlt
    go_wp2_with (at_builtin;go_must (refine wpList_append_own _ rfl _ _ 202 rfl (w.heap.size+1) 48 i0 (.agg #[.int .i64 0,.int .i64 0,.int .i64 0,.int .i64 0]) 4 32 Tryz.underlying202 hi iz0 iz1 iz2 rfl dE _ _ _ rfl ((hown.alloc _).alloc _) ⟨wr.heap.size+1,0,none⟩ 1 1 [.int .i64 (pt l k).x,.int .i64 (pt l k).y,.int .i64 (pt l k).x,.int .i64 (pt l k).y] rfl rfl ?c1 ?c2 ?c3 ?c4 ?c5 ?_))
    case c1=>
     intro j u hj
     match j,hj with
     | 0,hj=>simp at hj;subst hj;simp [Addr.add]
     | 1,hj=>simp at hj;subst hj;simp [Addr.add]
     | 2,hj=>simp at hj;subst hj;simp [Addr.add]
     | 3,hj=>simp at hj;subst hj;simp [Addr.add]
    case c2=>intro u hu;simp only [List.mem_cons,List.not_mem_nil,or_false] at hu;rcases hu with rfl|rfl|rfl|rfl<;>rfl
    case c3=>unfold maxLen;omega
    case c4=>omega
    case c5=>simp;omega
    intro v' w2 hown' hgrow _;have hlt' :=hown.lt;have hb2:Below w.heap.size w w2:=Below.grown (w:=(wr.alloc _).alloc _) bel hgrow (by simp;omega) (fun j e=>by have:=(hlt' j e).1;omega)
    have hb3:Below (w.heap.size+1) ((wr.alloc _).alloc _) w2:=Below.grown (w:=(wr.alloc (.cells #[.int .i64 (pt l k).x,.int .i64 (pt l k).y] 46)).alloc (.cells #[.int .i64 (pt l k).x,.int .i64 (pt l k).y,.int .i64 (pt l k).x,.int .i64 (pt l k).y] 48)) (Below.refl _ _) hgrow (by simp;omega) (fun j e=>(hlt' j e).1)
    have hP2:Blk w2 w.heap.size 48 #[.int .i64 0,.int .i64 0,.int .i64 0,.int .i64 0]:=((hP.alloc _).alloc _).below hb3 oQ
    have hown2:w2.ownsRow (w.heap.size+1) 48 4 v' (k+1) (qdc ((l.take (k+1)).map pbox)):=by
     have:qdc ((l.take (k+1)).map pbox)=qdc ((l.take k).map pbox)++ [.int .i64 (pt l k).x,.int .i64 (pt l k).y,.int .i64 (pt l k).x,.int .i64 (pt l k).y]:=by
      rw [zwy,qkd hkl]
      simp only [Option.toList_some,zfx,zdy,zey,qgi]
      rfl
     rw [this,List.map_take]
     exact hown'
    clear hown' hgrow hown hP hlt' hb3 c0 c1;go_wp2
    go_roundw
    case rel=>exact ⟨k+1,by omega,by go_num,hown2,hP2,hb2⟩
    case measure=>simp [intOf];omega
  · have hkn:k=n:=oQ
    subst hkn;obtain⟨A2,c2,rfl,hbx⟩:=qhn (l:=(l.take k).map pbox) hown (by simp [hl.1])
    rw [zmy (by rw [hl.1];exact zhy _)] at hbx
    have hPc:=hP.cell;have hPf:=hP.frozen;have hPl:=hP.lt
    have HW:C9 146 #[.slice A2 k c2] wr (Ret wr (.tuple #[bxV (qal l).lo.x (qal l).lo.y (qal l).hi.x (qal l).hi.y,.nilIface])):=by
     have:=qxu wr.heap.size k c2 A2 (l.map pbox) wr hbx (zhy _) (by unfold maxLen;omega)
     rw [show l.map pbox=l.map (fun p=>⟨p,p⟩) from rfl,qpw HC.out] at this
     exact this
    clear hb0 hP0 hb1 hc1 hf1 hy0
    go_wp2_with (go_at_call 146;refine HW.monoR ?_;rintro w1 hb1 hc1 hf1 hz1;(try simp at hz1);have hy0:=ol1 w w1)
    have HR:=(((((hP.tr hb1)).set_ 0 (.int .i64 (qal l).lo.x)).set_ 1 (.int .i64 (qal l).lo.y)).set_ 2 (.int .i64 (qal l).hi.x)).set_ 3 (.int .i64 (qal l).hi.y);have r0:=HR.cell 0;have r1:=HR.cell 1;have r2:=HR.cell 2;have r3:=HR.cell 3
    simp at r0 r1 r2 r3
    exact bodyPost_ret (v:=.tuple #[bxV (qal l).lo.x (qal l).lo.y (qal l).hi.x (qal l).hi.y,.nilIface]) (by simp [results,Tryz.results125,go_sem,r0,r1,r2,r3]) rfl ⟨rfl,bel⟩
end Go.Proofs.YtfnhnjbkkggbeaaGreat

/-slices.DeleteFunc of a leaf's entries by the closure of Delete-/
import Derived.Test.YtjopdlmbgidigaaGreatADelA
import Derived.Test.YtjopdlmbgidigaaGreatAGisY
set_option linter.unusedVariables false
set_option linter.unusedSimpArgs false
set_option maxHeartbeats 8000000
set_option maxRecDepth 20000
namespace Pg
def idxI (d:Int):List En->Nat->Int
 | [],_=> -1
 | e::r,i=>if e.id=d then(i:Int) else idxI d r (i+1)
theorem q0f {d:Int} {l:List En} {i:Nat} {e:En} (h:l[i]? =some e):idxI d (l.drop i) i=if e.id=d then(i:Int) else idxI d (l.drop (i+1)) (i+1):=by
 have hi:i<l.length:=by
  rcases zry i l.length with q|q
  · exact q
  · rw [zoy q] at h;cases h
 rw [zgx hi]
 rw [zby hi] at h;injection h with h
 subst h
 rfl
theorem qrm {d:Int}:∀{l:List En} {i:Nat},idxI d l i= -1->l.filter (fun e=> !decide (e.id=d))=l
 | [],_,_=>rfl
 | e::r,i,h=>by
   unfold idxI at h
   by_cases q:e.id=d
   · rw [if_pos q] at h;omega
   · rw [if_neg q] at h
     rw [List.filter_cons_of_pos (by simpa using q),qrm h]
theorem qrl {d:Int}:∀{l:List En} {i:Nat},idxI d l i≠ -1->∃j x,idxI d l i=((i+j:Nat):Int)/\l[j]? =some x/\x.id=d/\(l.take j).filter (fun e=> !decide (e.id=d))=l.take j
 | [],_,h=>absurd rfl h
 | e::r,i,h=>by
   unfold idxI at h ⊢
   by_cases q:e.id=d
   · exact⟨0,e,by rw [if_pos q];rfl,rfl,q,rfl⟩
   · rw [if_neg q] at h ⊢
     obtain⟨j,x,h1,h2,h3,h4⟩:=qrl h;exact⟨j+1,x,by rw [h1];congr 1;omega,by simpa using h2,h3,by rw [List.take_succ_cons,List.filter_cons_of_pos (by simpa using q),h4]⟩
end Pg
namespace Go.Proofs.YtjopdlmbgidigaaGreat
open Go Go.RowKit Pg
theorem qv0 (kv p:Value) (id d:Int) (g:Nat) (w:World) (hg:w.cell? ⟨g,0,none⟩=some (.int .i64 d)) (hlt:g<w.heap.size):
 C9 44 #[.agg #[kv,.int .i64 id,p],.pointer (some ⟨g,0,none⟩)] w (Ret w (.bool (decide (id=d)))):=by
 have e:decide (id=d)=(id==d):=by rw [Bool.eq_iff_iff];simp
 rw [e]
 go_enter Tryz.func44,Tryz.ntmps44
 go_wp2;go_ret;exact⟨rfl,bel⟩
theorem qxq (lf:Bool) (l:List En) (g n:Nat) (d:Int) (v:Value) (w:World) (h:w.ownsRow 0 84 3 v n (qaq lf l)) (hg:w.cell? ⟨g,0,none⟩=some (.int .i64 d)) (hlt:g<w.heap.size) (hn:n<=1000000):
 C9 76 #[v,.func (.func 44) #[] #[.pointer (some ⟨g,0,none⟩)]] w (Ret w (.int .i64 (idxI d l 0))):=by
 obtain⟨A,c,rfl,hnc,hAn,hAb⟩:=qat h;have hl:l.length=n:=by have:=h.1;rw [qe7] at this;omega
 have HR:=hdQ h;have HP:=hdQ (fun kv id p W (hW:Below w.heap.size w W)=>qv0 kv p id d g W (((qbb hW).1 g 0 hlt).trans hg) (zky hlt hW.size))
 clear h hnc hAn hAb
 go_enter Tryz.func76,Tryz.ntmps76
 go_wp2_with fail
 go_loopw [8] (fun vi wr=>∃i:Nat,i<=n/\vi=.int .i64 i/\idxI d (l.drop i) i=idxI d l 0/\Below w.heap.size w wr) (fun vi _=>n-(Go.RowKit.intOf vi).toNat)
 case atStart=>exact ⟨0,by omega,rfl,rfl,bel⟩
 case round=>
  obtain⟨i,hi,rfl,he,hb⟩:=hrel
  by_cases hlt' :i<n
  case neg=>
   obtain rfl:n=i:=oQ
   have HE:Hid (idxI d l 0= -1):=by
    unfold Hid
    rw [<-he,List.drop_of_length_le oQ]
    rfl
   clear he;go_wp2_with fail;go_ret;exact⟨by rw [HE.out];rfl,bel⟩
  have hi1:(i:Int)<(n:Int):=oQ
  obtain⟨x,hx⟩:∃x,l[i]? =some x:=⟨l[i]'oQ,zby _⟩
  have hr:=HR.out;rw [<-hl] at hr;obtain⟨g',c',hv,hgl,r0,r1,r2⟩:=qcx hr hx;injection hv with hv1 hv2 hv3
  subst hv1 hv3;obtain⟨hc,hf,hz⟩:=bc3 hb;rw [<-hc g' _ hgl] at r0 r1 r2;have hgw:g' <wr.heap.size:=oQ
  rw [q0f hx] at he;obtain⟨p,hp⟩:∃p,(if lf then Value.pointer none else gP x.kid)=p:=⟨_,rfl⟩
  rw [hp] at r2;clear hr hv2 hc hf hp
  by_cases hk:x.id=d
  · rw [if_pos hk] at he
    have HE:=hdQ he;have hd:decide (x.id=d)=true:=decide_eq_true hk;clear he hk
    go_wp2_with (go_at_call 44;(with_reducible refine(HP.out _ _ _ _ bel).mono ?_);rintro e w1 ⟨rfl,hb1⟩;obtain⟨hc1,hf1⟩:=qbb hb1;rw [hd])
    go_ret;exact⟨by rw [HE.out];rfl,bel⟩
  · rw [if_neg hk] at he
    have HE:=hdQ he;have hd:decide (x.id=d)=false:=decide_eq_false hk;clear he hk
    go_wp2_with (go_at_call 44;(with_reducible refine(HP.out _ _ _ _ bel).mono ?_);rintro e w1 ⟨rfl,hb1⟩;obtain⟨hc1,hf1⟩:=qbb hb1;rw [hd])
    go_roundw
    case rel=>exact ⟨i+1,by omega,by go_num,HE.out,bel⟩
    case measure=>simp [Go.RowKit.intOf];omega
theorem qg0 {w w' :World} {g:Nat} (h:w.grownBy w' none):w.grownBy w' (some g):=by
 obtain⟨a,b,c,d,e⟩:=h;exact⟨a,b,c,d,fun k hk q=>e k hk sI⟩
theorem quc {w w' :World} {g b o:Nat} (h:w.grownBy w' (some g)) (hb:b<w.heap.size) (hne:b≠g):w'.cell? ⟨b,o,none⟩=w.cell? ⟨b,o,none⟩:=by
 unfold World.cell?
 rw [h.block b hb (by simpa using hne)]
theorem qmx {l:List En} {d:Int} {j:Nat} {x:En} (h:l[j]? =some x) (hx:x.id=d):(l.take (j+1)).filter (fun e=> !decide (e.id=d))=(l.take j).filter (fun e=> !decide (e.id=d)):=by
 rw [zwy,h,List.filter_append]
 simp [hx]
theorem qru {l:List En} {d:Int} {j:Nat} {x:En} (h:l[j]? =some x) (hx:¬ x.id=d):(l.take (j+1)).filter (fun e=> !decide (e.id=d))=(l.take j).filter (fun e=> !decide (e.id=d))++ [x]:=by
 rw [zwy,h,List.filter_append]
 simp [hx]
theorem qog {L l:List En} {j:Nat} (h:L.drop j=l.drop j):L.drop (j+1)=l.drop (j+1):=by
 rw [<-List.drop_drop,<-List.drop_drop,h]
structure DelAt (w0 w:World) (lf:Bool) (l:List En) (d:Int) (g n c a j:Nat) (L:List En):Prop where
 row:w.ownsRow 0 84 3 (.slice (some ⟨g,0,none⟩) n c) n (qaq lf L)
 grown:w0.grownBy w (some g)
 len:L.length=n
 lt:a<j
 le:j<=n
 num:a=((l.take j).filter fun e=> !decide (e.id=d)).length
 kept:L.take a=(l.take j).filter fun e=> !decide (e.id=d)
 rest:L.drop j=l.drop j
theorem qy2 (l:List En) (g gd n c:Nat) (d:Int) (w:World) (h:w.ownsRow 0 84 3 (.slice (some ⟨g,0,none⟩) n c) n (qaq true l)) (hg:w.cell? ⟨gd,0,none⟩=some (.int .i64 d)) (hlt:gd<w.heap.size) (hne:gd≠g) (hn:n<=1000000) (hkv:∀e∈l,∃A m k,e.kv=.slice A m k):
 C9 43 #[.slice (some ⟨g,0,none⟩) n c,.func (.func 44) #[] #[.pointer (some ⟨gd,0,none⟩)]] w fun e w' =>∃m,m=(l.filter fun e=> !decide (e.id=d)).length/\e=.returned (.slice (some ⟨g,0,none⟩) m c)/\w'.ownsRow 0 84 3 (.slice (some ⟨g,0,none⟩) m c) m (qaq true (l.filter fun e=> !decide (e.id=d)))/\w.grownBy w' (some g):=by
 have HIx:=hdQ (qxq true l gd n d _ w h hg hlt hn);have hl:l.length=n:=by have:=h.1;rw [qe7] at this;omega
 have HL:=hdQ hl;have HR:=hdQ h;have HG:=hdQ (And.intro hg (And.intro hlt hne));have HKV:=hdQ hkv;clear h hg hl hkv
 by_cases hix:idxI d l 0= -1
 · have hF:=qrm hix
   rw [hix] at HIx;have HF:=hdQ hF;clear hF hix
   go_enter Tryz.func43,Tryz.ntmps43
   go_wp2_with (go_at_call 76;(refine HIx.out.monoR ?_);rintro w1 hb1 hc1 hf1 hz1;(try simp at hz1))
   go_ret;exact⟨n,by rw [HF.out,HL.out],rfl,by rw [HF.out];exact qak HR.out (qad hb1) sI,qg0 (qad hb1)⟩
 obtain⟨j0,x0,h1,h2,h3,h4⟩:=qrl hix;rw [h1,Nat.zero_add] at HIx;have hj0:j0<l.length:=(zsy.1 h2).1;have HJ:=hdQ (And.intro hj0 (And.intro h2 (And.intro h3 h4)));have hjn:j0<n:=by rw [<-HL.out];exact hj0
 have hm1:((j0:Int)== -1)=false:=by rw [beq_eq_false_iff_ne];omega
 clear hix h1 h2 h3 h4 hj0
 go_enter Tryz.func43,Tryz.ntmps43
 go_wp2_with (go_at_call 76;(refine HIx.out.monoR ?_);rintro w1 hb1 hc1 hf1 hz1;(try simp at hz1))
 have HB1:=hdQ hb1
 have HN0:Hid ((l.take (j0+1)).filter (fun e=> !decide (e.id=d))=l.take j0):=by
  obtain⟨h1,h2,h3,h4⟩:=HJ.out;unfold Hid
  rw [qmx h2 h3,h4]
 clear hb1 hc1 hf1 hz1 hm1 HIx hlt hne
 go_loopw [5,6] (fun va vj wr=>∃(a j:Nat) (L:List En),va=.int .i64 a/\vj=.int .i64 j/\DelAt w wr true l d g n c a j L) (fun _ vj _=>n-(Go.RowKit.intOf vj).toNat)
 case atStart=>
  have hz:=HJ.out.1;exact⟨j0,j0+1,l,rfl,by first|go_num|(rw [IntWalk.wrap64_in _ oQ];go_num),⟨qak HR.out (qad HB1.out) sI,qg0 (qad HB1.out),HL.out,by omega,by omega,by rw [HN0.out,List.length_take];omega,HN0.out.symm,rfl⟩⟩
 case round=>
  obtain⟨a,j,L,rfl,rfl,D⟩:=hrel;have hcn:n<=c:=by obtain⟨_,_,h,_⟩:=qma D.row;exact h
  have haj:=D.lt;have hjn' :=D.le;obtain⟨cg,cl,cn⟩:=HG.out;have cg' :wr.cell? ⟨gd,0,none⟩=some (.int .i64 d):=(quc D.grown cl cn).trans cg;have cl' :gd<wr.heap.size:=zky cl D.grown.size;have HP:=hdQ (fun kv id p W (hW:Below wr.heap.size wr W)=>qv0 kv p id d gd W (((qbb hW).1 gd 0 cl').trans cg') (zky cl' hW.size))
  have HD:=hdQ D;clear cg cg' cl cl' cn
  by_cases hlt:j<n
  case neg=>
   obtain rfl:n=j:=oQ
   have hac:¬ c=a:=oQ
   have hacI:(a:Int)<=(c:Int):=oQ
   have hanI:(a:Int)<=(n:Int):=oQ
   have hncI:(n:Int)<=(c:Int):=oQ
   obtain⟨zs,hcl⟩:=qkm wr g (a*3) (n-a) (c-a) oQ (fun z hz=>by rw [D.row.cellAt _ oQ,zby (by rw [D.row.1];omega)];rfl) (fun z _=>qej D.row _)
   clear D;go_wp2_with fail;go_ret;have e:l.take n=l:=zmy (by rw [HL.out];exact zhy _)
   have hk:=HD.out.kept;have hnum:=HD.out.num;rw [e] at hk hnum;have hro:=qq3 (qu8 (k:=a) HD.out.row oQ) zs (a*3) (zhy _)
   rw [qm0,hk] at hro;exact⟨a,hnum,rfl,hro,qdd zs (a*3) HD.out.grown⟩
  have hltI:(j:Int)<(n:Int):=oQ
  have hjl:j<l.length:=by rw [HL.out];exact hlt
  obtain⟨x,hx⟩:∃x,l[j]? =some x:=⟨l[j],zby hjl⟩
  have hLx:L[j]? =some x:=by
   have:=congrArg (·[0]?) D.rest
   simp only [List.getElem?_drop,Nat.add_zero] at this
   rw [this,hx]
  have hal:a<L.length:=by rw [D.len];omega
  obtain⟨y,hy⟩:∃y,L[a]? =some y:=⟨L[a],zby hal⟩;have hr:=D.row;rw [<-D.len] at hr;obtain⟨g',c',hv,hgl,r0,r1,r2⟩:=qcx hr hLx;injection hv with hv1 hv2 hv3
  injection hv1 with hv1
  injection hv1 with hv1
  subst hv1 hv3;clear hv2;obtain⟨g',c',hv,_,s0,s1,s2⟩:=qcx hr hy;injection hv with hv1 hv2 hv3
  injection hv1 with hv1
  injection hv1 with hv1
  subst hv1 hv3;have f0:=qej hr (a*3);have f1:=qej hr (a*3+1);have f2:=qej hr (a*3+2);simp only [if_true] at r2 s2;obtain⟨Ak,mk,ck,hkv⟩:=HKV.out x (zjy hx);rw [hkv] at r0;have HX:=hdQ (And.intro hx (And.intro hkv hy));have haI:(a:Int)<(n:Int):=oQ
  clear D hr hv2 hx hLx hy hkv hal hjl
  by_cases hk:x.id=d
  · have hd:decide (x.id=d)=true:=decide_eq_true hk
    have HK:=hdQ hk;clear hk
    go_wp2_with (go_at_call 44;(with_reducible refine(HP.out _ _ _ _ bel).mono ?_);rintro e w1 ⟨rfl,hb1⟩;obtain⟨hc1,hf1⟩:=qbb hb1;rw [hd])
    have hbw:Below wr.heap.size wr w1:=bel;refine⟨⟨a,j+1,L,by go_num,by go_num,?_⟩,by simp [Go.RowKit.intOf];omega⟩
    obtain⟨hx,_,_⟩:=HX.out;exact⟨qak HD.out.row (qad hbw) sI,HD.out.grown.trans (qg0 (qad hbw)),HD.out.len,by omega,by omega,by rw [qmx hx HK.out];exact HD.out.num,by rw [qmx hx HK.out];exact HD.out.kept,qog HD.out.rest⟩
  · have hd:decide (x.id=d)=false:=decide_eq_false hk
    have HK:=hdQ hk;clear hk
    go_wp2_with (go_at_call 44;(with_reducible refine(HP.out _ _ _ _ bel).mono ?_);rintro e w1 ⟨rfl,hb1⟩;obtain⟨hc1,hf1⟩:=qbb hb1;rw [hd])
    have hbw:Below wr.heap.size wr w1:=bel;refine⟨⟨a+1,j+1,L.set a x,by go_num,by go_num,?_⟩,by simp [Go.RowKit.intOf];omega⟩
    obtain⟨hx,hkv,_⟩:=HX.out;have hL:=HD.out.len;have hro:=qd1 (qes true x) (a*3) (qak HD.out.row (qad hbw) sI)
    rw [qtv oQ] at hro
    have hgr:=qdd (qes true x) (a*3) (HD.out.grown.trans (qg0 (qad hbw)));have ex:qes true x= [.slice Ak mk ck,.int .i64 x.id,.pointer none]:=by unfold qes;rw [hkv];rfl
    rw [ex] at hro hgr;refine⟨hro,hgr,by rw [zkx];exact hL,by omega,by omega,?_,?_,?_⟩
    · rw [qru hx HK.out,zny,<-HD.out.num];rfl
    · rw [qru hx HK.out,<-HD.out.kept,zwy,List.getElem?_set_self oQ,List.take_set,List.set_eq_of_length_le (by rw [List.length_take];omega)];rfl
    · rw [List.drop_set_of_lt oQ];exact qog HD.out.rest
end Go.Proofs.YtjopdlmbgidigaaGreat
namespace Pg
theorem qx1 (t:Tr) (n:Nat):below t 0 n=(t.es n).flatMap fun e=> [e.id]:=by
 unfold below
 induction t.es n with
 | nil=>rfl
 | cons e r ih=>rw [zdy,zvy,ih];rfl
def belS (t:Tr):Nat->En->List Int
 | 0,e=> [e.id]
 | l+1,e=>below t l e.kid
theorem qx2 (t:Tr) (l n:Nat):below t l n=(t.es n).flatMap (belS t l):=by
 cases l with
 | zero=>rw [qx1];rfl
 | succ l=>rfl
end Pg
namespace Go.Proofs.YtjopdlmbgidigaaGreat
open Go Go.RowKit Pg
theorem q48 {W:World} {o:Obj} {a:Value} {t:TypeId}:∀(j:Nat) (v:Value),[a][j]? =some v->((W.alloc o).alloc (.cells #[a] t)).cell? ((⟨W.heap.size+1,0,none⟩:Addr).add j)=some v:=by
 have h:=qs6 (w:=W.alloc o) (a:=a) (t:=t);have e:(W.alloc o).heap.size=W.heap.size+1:=sI
 rw [e] at h;exact h
section
variable {w:World} {own imm:Nat->Prop} {tb mb:Nat} {cl:Value} {t:Tr} {H:Nat->Prop} {L L' :Int->Prop}
theorem q1b (hS:Shape t L') (hlen:∀b l,t.lv b=some l->(t.es b).length<=16) (hcount:t.items.length<=100000):∀(l n:Nat) (w:World),t.lv n=some l->Lay w own imm tb mb cl t (fun _=>False) L->
 C9 46 #[gP n] w fun e w' =>∃v,e=.returned v/\w'.ownsRow w.heap.size 3 1 v (below t l n).length (idcs (below t l n))/\Below w.heap.size w w' :=by
 intro l
 induction l using Nat.strongRecOn with
 | _ l ih0=>
 intro n w hn h;obtain⟨n0,n1,n2,nlt⟩:=h.n0 hn;obtain⟨Ar,cr,hs,_,_,_⟩:=qat (h.row n l hn (fun q=>q))
 rw [hs] at n2
 have hfew:(below t l n).length<=100000:=by
  have h2:=hS.below_len hn
  omega
 obtain⟨k,hk⟩:∃k,(t.es n).length=k:=⟨_,rfl⟩;have HLN:=hdQ hk;rw [hk] at n2;have hk16:k<=16:=by rw [<-hk];exact hlen n _ hn
 have HS:=hdQ hs;have HN:=hdQ hn;have HH:=hdQ h;have HIH:Hid (∀l' b,l=l' +1->t.lv b=some l' ->∀W,Below w.heap.size w W->C9 46 #[gP b] W fun e w' =>∃v,e=.returned v/\w'.ownsRow W.heap.size 3 1 v (below t l' b).length (idcs (below t l' b))/\Below W.heap.size W w'):=fun l' b e hb W hW=>ih0 l' oQ b W hb (h.tr hW)
 have HSh:=hdQ hS
 rw [qx2] at hfew ⊢
 have HFew:=hdQ hfew;clear hn h hS ih0 hk hs hfew hlen hcount
 simp only [gP] at*
 go_enter Tryz.func46,Tryz.ntmps46
 go_wp2_with fail
 go_loopw [2,10] (fun v6 vi wr=>∃(i:Nat) (acc:List Int) (A6:Option Addr) (c6:Nat),v6=.slice A6 acc.length c6/\vi=.int .i64 i/\i<=k/\acc=((t.es n).take i).flatMap (belS t l)/\wr.ownsRow w.heap.size 3 1 (.slice A6 acc.length c6) acc.length (idcs acc)/\Below w.heap.size w wr) (fun _ vi _=>k-(Go.RowKit.intOf vi).toNat)
 case atStart=>exact ⟨0,[],none,0,rfl,rfl,zly _,by simp,World.ownsRow_nil _ _ _ _,Below.refl _ _⟩
 case round=>
  obtain⟨i,acc,A6,c6,rfl,rfl,hik,hacc,hrow,hb⟩:=hrel;have hWr:Below w.heap.size w wr:=hb;have hws:w.heap.size<=wr.heap.size:=hb.size
  by_cases hlt:i<k
  case neg=>
   obtain rfl:k=i:=oQ
   rw [zmy (by rw [HLN.out];exact zhy _)] at hacc
   have HA:=hdQ hacc;have HR:=hdQ hrow;have HW:=hdQ hWr;clear hacc hrow hb hWr hlt;go_wp2_with fail;go_ret;exact⟨_,rfl,by rw [<-HA.out];exact HR.out,HW.out⟩
  have L:=HH.out.tr hWr;obtain⟨m0,m1,m2,mlt⟩:=L.n0 HN.out;rw [HS.out,HLN.out] at m2;have hn0:(i:Int)<(k:Int):=oQ
  obtain⟨e,hx⟩:∃e,(t.es n)[i]? =some e:=⟨(t.es n)[i]'(by rw [HLN.out];exact hlt),zby _⟩
  have hmem:=zjy hx
  have hstep:((t.es n).take (i+1)).flatMap (belS t l)=acc++belS t l e:=by
   rw [zwy,hx,List.flatMap_append,<-hacc]
   simp
  have hal:(acc++belS t l e).length<=100000:=by
   rw [<-hstep]
   exact zcy (qks _ _ _) HFew.out
  obtain⟨g,c',hv,hgl,r0,r1,r2⟩:=qcx (L.row n l HN.out (fun q=>q)) hx
  rw [HS.out] at hv;injection hv with hv1 hv2 hv3
  subst hv1 hv3;obtain⟨Ak,ck,ekv,_⟩:=(L.ekey n l e HN.out hmem).bys;rw [ekv] at r0;have HRow:=hdQ hrow;have HB:=hdQ hb;have HSt:=hdQ hstep;have HAl:=hdQ hal;have HMem:=hdQ hmem
  obtain⟨rv,hrv⟩:∃a,(if decide (l=0)=true then Value.pointer none else .pointer (some ⟨e.kid,0,none⟩))=Value.pointer a:=by
   split
   · exact⟨none,rfl⟩
   · exact⟨_,rfl⟩
  simp only [gP] at r2;rw [hrv] at r2;have HRV:=hdQ hrv;clear hx hmem L hv2 ekv hacc hrow hb hstep hal hWr hrv;obtain⟨i0,hi,iz0,iz1,iz2⟩:=info_parts Tryz.infoIY
  cases l with
  | zero=>
    rw [show decide (0=0)=true from rfl] at m1
    have HE:Hid (belS t 0 e= [e.id]):=rfl;rw [HE.out] at HSt HAl
    go_wp2_with (at_builtin;go_must (refine wpList_append_own _ rfl _ _ 39 rfl w.heap.size 3 i0 (.int .i64 0) 1 8 Tryz.underlying39 hi iz0 iz1 iz2 rfl dE _ _ _ rfl (qak HRow.out (qad (show Below wr.heap.size wr _ from bel)) sI) ⟨wr.heap.size+1,0,none⟩ 1 1 [.int .i64 e.id] rfl rfl q48 (qhy [e.id]) ?c3 ?c4 ?c5 ?_))
    case c3=>have:=HAl.out;rw [zny] at this;unfold maxLen;simp at this;omega
    case c4=>have:=HAl.out;rw [zny] at this;simp at this;omega
    case c5=>first|omega|(simp;omega)
    intro v8 w8 hown8 hg8 _;obtain⟨A8,c8,rfl,_,_,_⟩:=qat hown8;have hal:Below wr.heap.size wr ((wr.alloc (.cells #[.slice Ak e.kb.length ck,.int .i64 e.id,.pointer rv] 84)).alloc (.cells #[.int .i64 e.id] 3)):=bel;have hzz:=hal.size;have HB11:=hdQ (HB.out.trans ((hal.mono hws).trans ((Below.refl _ _).grown hg8 (by simp;omega) (fun k e=>(HRow.out.lt k e).1))))
    have hl:(acc++ [e.id]).length=acc.length+1:=sI
    have HR11:=hdQ (show w8.ownsRow w.heap.size 3 1 (.slice A8 (acc++ [e.id]).length c8) (acc++ [e.id]).length (idcs (acc++ [e.id])) from by
     rw [hl]
     unfold idcs
     rw [zfx]
     exact hown8)
    clear hown8 hg8 hal;go_wp2_with fail
    go_roundw
    case rel=>exact ⟨i+1,acc++ [e.id],A8,c8,by rw [hl],by go_num,by omega,by rw [HSt.out],HR11.out,HB11.out⟩
    case measure=>simp [Go.RowKit.intOf];omega
  | succ l=>
    rw [show decide (l+1=0)=false by simp] at m1
    obtain rfl:rv=some ⟨e.kid,0,none⟩:=by have:=HRV.out;simpa using this.symm
    have hkid:=(HSh.out.kid n l e HN.out HMem.out).1;have HI:=hdQ (fun W (hW:Below wr.heap.size wr W)=>HIH.out l e.kid rfl hkid W (HB.out.trans (hW.mono HB.out.size)))
    have HE:Hid (belS t (l+1) e=below t l e.kid):=rfl;rw [HE.out] at HSt HAl;clear HRV hkid;generalize below t l e.kid=ys at*
    go_wp2_with (first|(go_at_call 46;(refine(HI.out _ bel).mono ?_);rintro e' w7 ⟨v7,rfl,ho7,hb7⟩;have HO7:=hdQ ho7;obtain⟨hc7,hf7,hz7⟩:=bc3 hb7;(try simp at hz7);have HB7:=hdQ (HB.out.trans ((show Below wr.heap.size wr w7 from bel).mono HB.out.size));have HR7:=hdQ (qak HRow.out (qad (show Below wr.heap.size wr w7 from bel)) sI);clear ho7)|(at_builtin;go_must (refine qfs rfl _ _ 39 rfl w.heap.size 3 i0 (.int .i64 0) 1 8 Tryz.underlying39 hi iz0 iz1 iz2 rfl dE _ _ _ rfl HR7.out _ _ _ _ rfl HO7.out (qhy _) ?c3 ?c4 ?c5 ?_)))
    case c3=>have:=HAl.out;rw [zny] at this;unfold maxLen;omega
    case c4=>have:=HAl.out;rw [zny] at this;omega
    case c5=>omega
    intro v8 w8 hown8 hg8;obtain⟨A8,c8,rfl,_,_,_⟩:=qat hown8;have HB11:=hdQ (HB7.out.trans ((Below.refl _ _).grown hg8 oQ (fun k e=>(HR7.out.lt k e).1)))
    have hl:(acc++ys).length=acc.length+ys.length:=sI
    have HR11:=hdQ (show w8.ownsRow w.heap.size 3 1 (.slice A8 (acc++ys).length c8) (acc++ys).length (idcs (acc++ys)) from by
     rw [hl]
     unfold idcs
     rw [zfx]
     exact hown8)
    clear hown8 hg8;go_wp2_with fail
    go_roundw
    case rel=>exact ⟨i+1,acc++ys,A8,c8,by rw [hl],by go_num,by omega,HSt.out.symm,HR11.out,HB11.out⟩
    case measure=>simp [Go.RowKit.intOf];omega
end
end Go.Proofs.YtjopdlmbgidigaaGreat
namespace Pg
open Go Go.RowKit Go.Maps
theorem q1i {w:World} {P:Program} {k t e:TypeId} {b:Nat} {V:List (Int×Value)} {id:Int} {o:Oper} {a:Act} {Q:Exit->Act->World->Prop} {K:Act->World->Prop} (m x:Operand) (hop:o.op=Op.call {callee:=Callee.builtin Builtin.delete,args:= #[m,x],argTypes:= #[t,k]}) (hm:a.eval m=.map (some b)) (hx:a.eval x=.int .i64 id) (h:qbj w P k b V) (hk:P.underlying k=some (.int .i64)) (ht:P.underlying t=some (.map k e))
 (h0: -9223372036854775808<=id) (h1:id<=9223372036854775807) (hK:∀w',qbj w' P k b (delK id V)->w.grownBy w' (some b)->K (a.put o.dst (.tuple #[])) w'):o.wp P a w K Q:=by
 obtain⟨w',hr,r1,r2⟩:=h.drop hk ht o.type h0 h1;unfold Oper.wp
 simp [execOp,hop,resolve,invoke,builtin,hm,hx,hr,Result.andThen]
 exact hK w' r1 r2
end Pg
namespace Go.Proofs.YtjopdlmbgidigaaGreat
open Go Go.RowKit Pg
section
variable {w w' :World} {own imm:Nat->Prop} {tb mb:Nat} {cl:Value} {t:Tr} {L L' :Int->Prop}
theorem Lay.shrunk (h:Lay w own imm tb mb cl t (fun _=>False) L) {b l g m c m' :Nat} (hb:t.lv b=some l) (hsl:t.sl b=.slice (some ⟨g,0,none⟩) m c) (hg:w.grownBy w' (some g)) {es:List En}
 (hrow:w'.ownsRow 0 84 3 (.slice (some ⟨g,0,none⟩) m' c) m' (qaq (decide (l=0)) es)) (hm:m' =es.length) (hsub:∀e∈es,e∈t.es b):
 Lay (w'.setCell ⟨b,2,none⟩ (.slice (some ⟨g,0,none⟩) m' c)) own imm tb mb cl {t with es:=updT t.es b es,sl:=updT t.sl b (.slice (some ⟨g,0,none⟩) m' c)} (fun _=>False) L/\Grow w (w'.setCell ⟨b,2,none⟩ (.slice (some ⟨g,0,none⟩) m' c)) own imm own imm:=by
 have hg0:(t.sl b).ownBlock=some g:=by rw [hsl];rfl
 have hog:=h.oR b l g hb (fun q=>q) hg0
 have h1:=h.rowLost hb (fun q=>q) (by rw [hg0];exact hg)
 subst hm
 have h2:=h1.setRow hb hrow (fun g' e=>by
  have e' :g=g' :=by simpa [Value.ownBlock] using e
  subst e'
  exact⟨hog,fun b' l' hb' hne _ q=>hne (h.apR b' b l' l g hb' hb (fun q=>q) (fun q=>q) q hg0)⟩) (fun e he=>h1.ekey b l e hb (hsub e he))
 refine⟨h2.less (fun x hx=> ?_) (fun _ q=>q),Grow.of_turn (((TurnF.refl own w).grown hg fun k e=>by cases e;exact .inl hog).set_ (p:=⟨b,2,none⟩) (.inl (h.oN b l hb)) _)⟩
 rcases hx with ⟨q|q,hne⟩
 · exact q
 · exact hne q
end
end Go.Proofs.YtjopdlmbgidigaaGreat
namespace Pg
open Go Go.RowKit
theorem qp9 {P:Program} {w:World} {t ty e:TypeId} {i:TypeInfo} {z:Value} {base size bytes:Nat} (ht:P.underlying t=some (.slice e)) (hi:P.info? e=some i) (hz:i.zero=some z)
 (hsize:i.size=size) (hby:i.bytes=bytes) {v:Value} {n:Nat} {xs:List Value} (hown:w.ownsRow base e size v n xs)
 {a:Addr} {m c:Nat} {news:List Value} (hl:news.length=m*size) (hnews:∀j u,news[j]? =some u->w.cell? (a.add j)=some u) (h1:∀u∈news,u.oneCell' =true)
 (h63:n+m<=maxLen) (hbytes:(n+m)*bytes<=140737488355328) (hm:v=.slice none 0 0->0<m) {v' :Value} {w' :World} (hr:(Builtin.append_ #[t,t] ty #[v,.slice (some a) m c]).run P w=.ok v' w'):v'.ownBlock=v.ownBlock\/v'.ownBlock=some w.heap.size:=by
 by_cases h0:0<m
 · exact qku ht hi hz hsize hby hown hl hnews h1 h63 hbytes h0 hr
 subst hsize;subst hby;have hsmall:n+m<=9223372036854775807:=by simp only [maxLen] at h63;omega
 rcases hown.2 with ⟨rfl,rfl⟩|⟨g,cap,cur,rfl,hbg,hg,hnc,hcm,hcs,htake⟩
 · exact absurd (hm rfl) h0
 · have hroom:n+m<=cap:=oQ
   have hfit:n*i.size+news.length<=cur.size:=by rw [hl,hcs,<-Nat.add_mul];exact zuy _ hroom
   have hr2:=run_append_room (P:=P) w t ty e i ht hi g n cap cur hg a m c news hl hnews h1 hroom hfit;rw [hr2] at hr;injection hr with e1 _
   subst e1;exact .inl rfl
theorem qie {P:Program} {w:World} {ops:Array Oper} {rest:List Oper} {o:Oper} {a:Act} {Q:Exit->Act->World->Prop} (hgd:o.guard=none) (s x:Operand) (t:TypeId)
 (ho:o.op=.call {callee:=.builtin .append,args:= #[s,x],argTypes:= #[t,t]})
 (e:TypeId) (i:TypeInfo) (z:Value) (size bytes:Nat) (ht:P.underlying t=some (.slice e)) (hi:P.info? e=some i) (hz:i.zero=some z)
 (hsize:i.size=size) (hby:i.bytes=bytes) (hzs:z.cells.size=size) (hsz:0<size)
 (v:Value) (n:Nat) (xs:List Value) (hs:a.eval s=v) (hown:w.ownsRow 0 e size v n xs) (base2:Nat) (v2:Value) (m:Nat) (ys:List Value) (hx:a.eval x=v2) (hown2:w.ownsRow base2 e size v2 m ys) (h1:∀u∈ys,u.oneCell' =true)
 (h63:n+m<=maxLen) (hbytes:(n+m)*bytes<=140737488355328)
 (h:∀v' w',w'.ownsRow 0 e size v' (n+m) (xs++ys)->w.grownBy w' v.ownBlock->(v'.ownBlock=v.ownBlock\/v'.ownBlock=some w.heap.size)->wpList P ops Q rest (a.put o.dst v') w'):wpList P ops Q (o::rest) a w:=by
 have hl:=hown2.1
 rcases hown2.2 with ⟨e1,h0⟩|⟨g,cap,cur,e1,hg,hh,hc⟩
 · subst e1 h0
   have hys:ys= []:=by simpa using hl
   subst hys;exact wpList_append_own_none hgd s x t ho 0 e i size ht hi v n xs hs hown hx (h v w (by simpa using hown) ⟨rfl,rfl,rfl,zhy _,fun _ _ _=>rfl⟩ (.inl rfl))
 · subst e1
   refine wpList_plain hgd fun _ hK=> ?_
   have hnews:∀j u,ys[j]? =some u->w.cell? ((⟨g,0,none⟩:Addr).add j)=some u:=hown2.cells (g:=g) rfl;obtain⟨v',w',hr,h2,h3,h4⟩:=run_append_own (P:=P) w 0 t o.type e i z size bytes ht hi hz hsize hby hzs hsz v n xs hown ⟨g,0,none⟩ m cap ys hl hnews h1 h63 hbytes (zly _)
   have hw:v'.ownBlock=v.ownBlock\/v'.ownBlock=some w.heap.size:=by
    by_cases q:v=.slice none 0 0/\m=0
    · have q1:=h4.2 q
      rw [q1,q.1]
      exact .inl rfl
    · exact qp9 ht hi hz hsize hby hown hl hnews h1 h63 hbytes (fun e=>by
       rcases Nat.eq_zero_or_pos m with r|r
       · exact absurd ⟨e,r⟩ q
       · exact r) hr
   unfold Oper.wp execOp
   simp only [ho,resolve,invoke,builtin,Sem.run_bind,Sem.run_pure,Result.andThen_ok,List.map_toArray,zdy,zey,hs,hx,hr]
   exact hK _ _ (h v' w' h2 h3 hw)
theorem Climb.lens {U:List (List Nat)->List Nat} {t:Tr} {out:List Int} {n:Nat} (c:Climb U t out n):∀b l,t.lv b=some l->(t.es b).length<=t.fan:=fun b l hb=>by
 by_cases q:b=n
 · rw [q];exact c.most
 · exact(c.fill b l hb q).1
theorem Top.lens {U:List (List Nat)->List Nat} {t:Tr} {out:List Int} (c:Top U t out):∀b l,t.lv b=some l->(t.es b).length<=t.fan:=fun b l hb=>by
 by_cases q:b=t.root
 · rw [q];exact c.most
 · exact(c.fill b l hb q).1
theorem q0s {α:Type} {id:Int} {m:List (Int×α)} (h:getK id m=none):delK id m=m:=by
 unfold delK
 rw [List.filter_eq_self]
 intro p hp;have:=qd6.1 h p hp
 simpa using this
theorem q0l {m:List (Int×It)} {out:List Int} (hnd:out.Nodup) (h:∀i∈out,∃it,getK i m=some it):out.length<=m.length:=by
 have:=qmh (m:=m.map (·.1)) hnd fun i hi=>by
  obtain⟨it,hit⟩:=h i hi;exact zty.2 ⟨_,qd5 hit,rfl⟩
 rwa [zyy] at this
end Pg
namespace Go.Proofs.YtjopdlmbgidigaaGreat
open Go Go.RowKit Pg
theorem qy1 (lf:Bool) (l:List En) (g n c i:Nat) (w:World) (h:w.ownsRow 0 84 3 (.slice (some ⟨g,0,none⟩) n c) n (qaq lf l)) (hone:∀e∈l,e.kv.oneCell' =true) (hi:i<n) (hn:n<=1000000):
 C9 48 #[.slice (some ⟨g,0,none⟩) n c,.int .i64 (i:Int),.int .i64 ((i:Int)+1)] w fun e w' =>e=.returned (.slice (some ⟨g,0,none⟩) (n-1) c)/\w'.ownsRow 0 84 3 (.slice (some ⟨g,0,none⟩) (n-1) c) (n-1) (qaq lf (l.eraseIdx i))/\w.grownBy w' (some g):=by
 have h1:=q13 lf l g n c i w h hone hi hn
 rwa [show ((i+1:Nat):Int)=(i:Int)+1 from by omega] at h1
section
variable {w W W' :World} {own imm own' imm' :Nat->Prop} {v v' :Value} {out ys:List Int}
structure LostAt (w W:World) (own imm:Nat->Prop) (v:Value) (out:List Int):Prop where
 row:W.ownsRow 0 3 1 v out.length (idcs out)
 no:∀k,v.ownBlock=some k->w.heap.size<=k/\¬ own k/\¬ imm k
theorem LostAt.nil:LostAt w W own imm (.slice none 0 0) []:=⟨World.ownsRow_nil _ _ _ _,fun k e=>by cases e⟩
theorem LostAt.grow (h:LostAt w W own imm v out) (hg:Grow W W' own imm own' imm'):LostAt w W' own' imm' v out:=
 ⟨qgd h.row hg.turn fun g q=>(h.no g q).2.1,fun k q=>⟨(h.no k q).1,fun r=>(hg.oo k r).elim (h.no k q).2.1 fun s=>by have:=(h.row.lt k q).2;omega,fun r=>(hg.ii k r).elim (h.no k q).2.2 fun s=>by have:=(h.row.lt k q).2;omega⟩⟩
theorem LostAt.tr (h:LostAt w W own imm v out) (hb:Below W.heap.size W W'):LostAt w W' own imm v out:=h.grow (Grow.of_below hb)
theorem LostAt.more (h:LostAt w W own imm v out) (hlim:∀b,own b\/imm b->b<W.heap.size) (hw:w.heap.size<=W.heap.size) (hrow:W'.ownsRow 0 3 1 v' (out.length+ys.length) (idcs out++idcs ys)) (hwh:v'.ownBlock=v.ownBlock\/v'.ownBlock=some W.heap.size):LostAt w W' own imm v' (out++ys):=by
 refine⟨by rw [zny];unfold idcs;rw [zfx];exact hrow,fun k q=> ?_⟩
 rcases hwh with e|e
 · exact h.no k (by rw [<-e];exact q)
 · rw [e] at q
   cases q
   exact⟨hw,fun r=>by have:=hlim _ (.inl r);omega,fun r=>by have:=hlim _ (.inr r);omega⟩
theorem LostAt.at_ {A:Option Addr} {n c i:Nat} {z:Int} (h:LostAt w W own imm (.slice A n c) out) (hz:out[i]? =some z):∃g,A=some ⟨g,0,none⟩/\g<W.heap.size/\W.cell? ⟨g,i,none⟩=some (.int .i64 z):=by
 have hi:i<out.length:=(zsy.1 hz).1
 rcases h.row.2 with ⟨_,h0⟩|⟨g,cap,cur,e,_⟩
 · omega
 · injection e with e1 e2 e3
   subst e1;have hr:=h.row;rw [e2,e3] at hr;refine⟨g,rfl,(hr.lt g rfl).2,?_⟩
   rw [hr.cellAt i oQ]
   unfold idcs
   rw [zpx,hz]
   rfl
end
section
variable {C:Cl} {cl:Value} {w W W' :World} {own imm0 imm:Nat->Prop} {tb mb n l u i m g c:Nat} {t t3:Tr} {id:Int} {out:List Int} {x:En}
structure ClimbAt (C:Cl) (cl:Value) (w W:World) (own imm0:Nat->Prop) (tb mb:Nat) (t:Tr) (id:Int) (t3:Tr) (out:List Int) (imm:Nat->Prop) (n l:Nat):Prop where
 lay:Lay W own imm tb mb cl t3 (fun _=>False) fun i=>i∈out
 grow:Grow w W own imm0 own imm
 climb:Climb C.un t3 out n
 lv:t3.lv n=some l
 its:t3.items=delK id t.items
 fan:t3.fan=t.fan
 old:∀b l,t3.lv b=some l->t.lv b=some l
theorem ClimbAt.kept {row:Option Nat} (h:ClimbAt C cl w W own imm0 tb mb t id t3 out imm n l) (hg:W.grownBy W' row) (hne:∀g,row=some g->w.heap.size<=g/\¬ own g/\¬ imm g):ClimbAt C cl w W' own imm0 tb mb t id t3 out imm n l:=
 {h with
  lay:=h.lay.kept hg fun g e=>(hne g e).2
  grow:=⟨h.grow.turn.grown hg fun k e=> .inr (hne k e).1,h.grow.oo,h.grow.ii,h.grow.o,h.grow.i⟩}
theorem ClimbAt.tr (h:ClimbAt C cl w W own imm0 tb mb t id t3 out imm n l) (hb:Below W.heap.size W W'):ClimbAt C cl w W' own imm0 tb mb t id t3 out imm n l:=h.kept (qad hb) sI
open Classical in
theorem ClimbAt.dropped (h:ClimbAt C cl w W own imm0 tb mb t id t3 out imm n l) (hu:t3.up n=some u) (hx:(t3.es u)[i]? =some x) (hxk:x.kid=n) (hsl:t3.sl u=.slice (some ⟨g,0,none⟩) m c) (hm:(t3.es u).length=m) (hg:W.grownBy W' (some g)) (hrow:W'.ownsRow 0 84 3 (.slice (some ⟨g,0,none⟩) (m-1) c) (m-1) (qaq false ((t3.es u).eraseIdx i))):
 ∃t4,ClimbAt C cl w (W'.setCell ⟨u,2,none⟩ (.slice (some ⟨g,0,none⟩) (m-1) c)) own imm0 tb mb t id t4 (out++below t3 l n) imm u (l+1)/\Grow W (W'.setCell ⟨u,2,none⟩ (.slice (some ⟨g,0,none⟩) (m-1) c)) own imm own imm:=by
 obtain⟨hul,hun⟩:=h.climb.up h.lv hu;have hi:i<(t3.es u).length:=(zsy.1 hx).1;obtain⟨hL,hG⟩:=h.lay.shrunk (b:=u) (l:=l+1) (m:=m) (es:=(t3.es u).eraseIdx i) hul hsl hg (by simpa using hrow) (by rw [List.length_eraseIdx,if_pos hi,hm]) (fun e he=>(List.eraseIdx_sublist _ _).subset he)
 have hlv:∀b m,(if Und t3.up n b then none else t3.lv b)=some m->t3.lv b=some m:=fun b m hb=>by
  split at hb
  · cases hb
  · exact hb
 refine⟨_,⟨(hL.forget (lv:=fun b=>if Und t3.up n b then none else t3.lv b) hlv).less (fun _ q=>q) (fun i q=>List.mem_append_left _ q),h.grow.trans hG,h.climb.drop (v:=.slice (some ⟨g,0,none⟩) (m-1) c) h.lv hu hx hxk rfl,?_,h.its,h.fan,fun b l hb=>h.old b l (hlv b l hb)⟩,hG⟩
 have hnu:¬ Und t3.up n u:=fun q=>by
  obtain⟨m',h1,h2,_⟩:=h.climb.shape.und_lv hul q;rw [h.lv] at h2;injection h2 with h2
  omega
 show (if Und t3.up n u then none else t3.lv u)=some (l+1)
 rw [if_neg hnu]
 exact hul
theorem ClimbAt.keyed {kv:Value} {kb:List Nat} {B:Nat} (h:ClimbAt C cl w W own imm0 tb mb t id t3 out imm n l) (hu:t3.up n=some u) (hx:(t3.es u)[i]? =some x) (hxk:x.kid=n) (hlen:t3.fan/2<=(t3.es n).length) (hsl:t3.sl u=.slice (some ⟨g,0,none⟩) m c) (hW:Below W.heap.size W W') (ho:W'.ownsRow B 5 1 kv kb.length (qau kb)) (hB:W.heap.size<=B) (hkb:kb=C.un ((t3.es n).map En.kb)) (h1:∀x∈kb,x<256) (h2:kb.length<=1000000):
 ∃t4 imm4,ClimbAt C cl w (W'.setCell ⟨g,i*3,none⟩ kv) own imm0 tb mb t id t4 out imm4 u (l+1)/\Grow W (W'.setCell ⟨g,i*3,none⟩ kv) own imm own imm4:=by
 subst hkb;obtain⟨hul,_⟩:=h.climb.up h.lv hu;obtain⟨imm4,hL,hG⟩:=h.lay.refreshed hW hul (fun q=>q) hsl (zsy.1 hx).1 ho hB h1 h2
 exact⟨_,imm4,⟨hL,h.grow.trans hG,h.climb.key h.lv hu hx hxk hlen kv,hul,h.its,h.fan,h.old⟩,hG⟩
structure TopAt (C:Cl) (cl:Value) (w W:World) (own0 imm0:Nat->Prop) (tb mb:Nat) (t:Tr) (id:Int) (t3:Tr) (out:List Int) (own imm:Nat->Prop) (l:Nat):Prop where
 lay:Lay W own imm tb mb cl t3 (fun _=>False) fun i=>i∈out
 grow:Grow w W own0 imm0 own imm
 top:Top C.un t3 out
 lv:t3.lv t3.root=some l
 its:t3.items=delK id t.items
 fan:t3.fan=t.fan
theorem ClimbAt.top (h:ClimbAt C cl w W own imm0 tb mb t id t3 out imm n l) (hu:t3.up n=none):TopAt C cl w W own imm0 tb mb t id t3 out own imm l:=
 ⟨h.lay,h.grow,h.climb.top h.lv hu,by rw [<-h.climb.shape.one n l h.lv hu];exact h.lv,h.its,h.fan⟩
variable {own0:Nat->Prop}
theorem TopAt.sunk (h:TopAt C cl w W own0 imm0 tb mb t id t3 out own imm (l+1)) (hes:t3.es t3.root= [x]):
 TopAt C cl w ((W.setCell ⟨tb,2,none⟩ (gP x.kid)).setCell ⟨x.kid,0,none⟩ (.pointer none)) own0 imm0 tb mb t id {t3 with root:=x.kid,lv:=updT t3.lv t3.root none,up:=updT t3.up x.kid none} out own imm l/\Grow W ((W.setCell ⟨tb,2,none⟩ (gP x.kid)).setCell ⟨x.kid,0,none⟩ (.pointer none)) own imm own imm/\(∀b m,updT t3.lv t3.root none b=some m->t3.lv b=some m)/\t3.lv x.kid=some l:=by
 obtain⟨h1,h2⟩:=h.top.sink h.lv hes rfl;have hk:=(h.top.shape.kid _ _ x h.lv (by rw [hes];simp)).1
 have hL1:=(h.lay.setRoot (r:=x.kid)).noUp (b:=x.kid) (l:=l) hk
 have hlv:∀b m,updT t3.lv t3.root none b=some m->t3.lv b=some m:=fun b m hb=>by
  unfold updT at hb
  split at hb
  · cases hb
  · exact hb
 have hG:Grow W ((W.setCell ⟨tb,2,none⟩ (gP x.kid)).setCell ⟨x.kid,0,none⟩ (.pointer none)) own imm own imm:=Grow.of_turn (((TurnF.refl own W).set_ (p:=⟨tb,2,none⟩) (.inl h.lay.oT) _).set_ (p:=⟨x.kid,0,none⟩) (.inl (h.lay.oN _ _ hk)) _);exact⟨⟨hL1.forget (lv:=updT t3.lv t3.root none) hlv,h.grow.trans hG,h1,h2,h.its,h.fan⟩,hG,hlv,hk⟩
theorem TopAt.emptied (h:TopAt C cl w W own0 imm0 tb mb t id t3 out own imm (l+1)) (hes:t3.es t3.root= []):
 ∃t4 own4,TopAt C cl w ((W.setCell ⟨tb,2,none⟩ (gP W.heap.size)).alloc (.cells #[.pointer none,.bool true,.slice none 0 0] 74)) own0 imm0 tb mb t id t4 out own4 imm 0/\Grow W ((W.setCell ⟨tb,2,none⟩ (gP W.heap.size)).alloc (.cells #[.pointer none,.bool true,.slice none 0 0] 74)) own imm own4 imm:=by
 have h1:=h.lay.setRoot (r:=W.heap.size);have h2:=h1.bornNew (W:=(W.setCell ⟨tb,2,none⟩ (gP W.heap.size)).alloc (.cells #[.pointer none,.bool true,.slice none 0 0] 74)) (o:=W.heap.size) (l:=0) (h.lay.fresh (zhy _)) bel sI (Blk.new sI rfl)
 have h3:=h2.1.forget (lv:=fun b=>if b=W.heap.size then some 0 else none) (fun b m hb=>by
  by_cases q:b=W.heap.size
  · rw [if_pos q] at hb
    rw [q]
    show updT t3.lv W.heap.size (some 0) W.heap.size=some m
    rw [qah]
    exact hb
  · rw [if_neg q] at hb
    cases hb)
 obtain⟨h4,h5⟩:=h.top.empty (r:=W.heap.size) h.lv hes rfl;have hG:=(Grow.of_turn ((TurnF.refl own W).set_ (p:=⟨tb,2,none⟩) (.inl h.lay.oT) (gP W.heap.size)):Grow W _ own imm own imm).trans h2.2;exact⟨_,_,⟨h3,h.grow.trans hG,h4,h5,h.its,h.fan⟩,hG⟩
structure DoneAt (C:Cl) (cl:Value) (w W:World) (own0 imm0:Nat->Prop) (tb mb:Nat) (t:Tr) (id:Int) (t3:Tr) (L:Int->Prop) (own imm:Nat->Prop):Prop where
 lay:Lay W own imm tb mb cl t3 (fun _=>False) L
 grow:Grow w W own0 imm0 own imm
 shape:Shape t3 L
 fill:Fill t3 fun _=>False
 keyed:Keyed C.un t3 fun _=>False
 its:t3.items=delK id t.items
 fan:t3.fan=t.fan
theorem TopAt.done (h:TopAt C cl w W own0 imm0 tb mb t id t3 out own imm l) (hz:l=0\/2<=(t3.es t3.root).length):DoneAt C cl w W own0 imm0 tb mb t id t3 (fun i=>i∈out) own imm:=
 ⟨h.lay,h.grow,h.top.shape,h.top.done h.lv hz,h.top.keyed,h.its,h.fan⟩
variable {L L' :Int->Prop}
theorem DoneAt.less (h:DoneAt C cl w W own0 imm0 tb mb t id t3 L own imm) (hL:∀i,L i↔L' i):DoneAt C cl w W own0 imm0 tb mb t id t3 L' own imm:=
 {h with lay:=h.lay.less (fun _ q=>q) (fun i q=>(hL i).1 q),shape:=h.shape.less hL}
def DelG (C:Cl) (cl:Value) (w w' :World) (own imm:Nat->Prop) (tb mb:Nat) (t:Tr) (id:Int):Prop:=
 ∃t' own' imm',GAt C cl w' own' imm' tb mb t' /\Grow w w' own imm own' imm' /\t'.fan=t.fan/\t'.items=delK id t.items
theorem DoneAt.gat {own' imm' :Nat->Prop} (h:DoneAt C cl w W own imm tb mb t id t3 L own' imm') (hL:∀i,¬ L i) (hG:GAt C cl w own imm tb mb t):DelG C cl w W own imm tb mb t id:=by
 have h' :=h.less (L' :=fun _=>False) fun i=>⟨fun q=>hL i q,fun q=>q.elim⟩
 refine⟨t3,own',imm',⟨h'.lay,h'.shape,h'.fill,h'.keyed,by rw [h.fan];exact hG.fan4,by rw [h.fan];exact hG.fan16,fun j y hj=> ?_⟩,h.grow,h.fan,h.its⟩
 rw [h.its,qkd hG.shape.rise] at hj
 split at hj
 · cases hj
 · exact hG.its j y hj
end
end Go.Proofs.YtjopdlmbgidigaaGreat

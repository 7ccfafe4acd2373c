/-gist.below-/
import Derived.Test.YtfnhnjbkkggbeaaGreatHGisY
import Derived.Deep.RegionLaw
set_option linter.unusedVariables false
set_option linter.unusedSimpArgs false
set_option maxHeartbeats 8000000
set_option maxRecDepth 20000
namespace Pg
theorem qw9 (t:Tr) (n:Nat):below t 0 n=(t.es n).flatMap fun e=> [e.id]:=by
 unfold below
 induction t.es n with
 | nil=>rfl
 | cons e r ih=>rw [zdy,zvy,ih];rfl
def belS (t:Tr):Nat->En->List Int
 | 0,e=> [e.id]
 | l+1,e=>below t l e.kid
theorem qxa (t:Tr) (l n:Nat):below t l n=(t.es n).flatMap (belS t l):=by
 cases l with
 | zero=>rw [qw9];rfl
 | succ l=>rfl
end Pg
namespace Go.Proofs.YtfnhnjbkkggbeaaGreat
open Go Go.RowKit Pg
theorem q5b {W:World} {o:Obj} {a:Value} {t:TypeId}:∀(j:Nat) (v:Value),[a][j]? =some v->((W.alloc o).alloc (.cells #[a] t)).cell? ((⟨W.heap.size+1,0,none⟩:Addr).add j)=some v:=by
 have h:=qy2 (w:=W.alloc o) (a:=a) (t:=t);have e:(W.alloc o).heap.size=W.heap.size+1:=sI
 rw [e] at h;exact h
section
variable {w:World} {own imm:Nat->Prop} {tb mb:Nat} {cl:Value} {t:Tr} {H:Nat->Prop} {L L' :Int->Prop}
theorem qre (hS:Shape t L') (hlen:∀b l,t.lv b=some l->(t.es b).length<=16) (hcount:t.items.length<=100000):∀(l n:Nat) (w:World),t.lv n=some l->Lay w own imm tb mb cl t (fun _=>False) L->
 C9 42 #[gP n] w fun e w' =>∃v,e=.returned v/\w'.ownsRow w.heap.size 3 1 v (below t l n).length (idcs (below t l n))/\Below w.heap.size w w' :=by
 intro l
 induction l using Nat.strongRecOn with
 | _ l ih0=>
 intro n w hn h;obtain⟨n0,n1,n2,nlt⟩:=h.n0 hn;obtain⟨Ar,cr,hs,_,_,_⟩:=qaq (h.row n l hn (fun q=>q))
 rw [hs] at n2
 have hfew:(below t l n).length<=100000:=by
  have h2:=hS.below_len hn
  omega
 obtain⟨k,hk⟩:∃k,(t.es n).length=k:=⟨_,rfl⟩;have HLN:=hdQ hk;rw [hk] at n2;have hk16:k<=16:=by rw [<-hk];exact hlen n _ hn
 have HS:=hdQ hs;have HN:=hdQ hn;have HH:=hdQ h;have HIH:Hid (∀l' b,l=l' +1->t.lv b=some l' ->∀W,Below w.heap.size w W->C9 42 #[gP b] W fun e w' =>∃v,e=.returned v/\w'.ownsRow W.heap.size 3 1 v (below t l' b).length (idcs (below t l' b))/\Below W.heap.size W w'):=fun l' b e hb W hW=>ih0 l' oQ b W hb (h.tr hW)
 have HSh:=hdQ hS
 rw [qxa] at hfew ⊢
 have HFew:=hdQ hfew;clear hn h hS ih0 hk hs hfew hlen hcount
 simp only [gP] at*
 go_enter Tryz.func42,Tryz.ntmps42
 go_wp2_with fail
 go_loopw [2,10] (fun v6 vi wr=>∃(i:Nat) (acc:List Int) (A6:Option Addr) (c6:Nat),v6=.slice A6 acc.length c6/\vi=.int .i64 i/\i<=k/\acc=((t.es n).take i).flatMap (belS t l)/\wr.ownsRow w.heap.size 3 1 (.slice A6 acc.length c6) acc.length (idcs acc)/\Below w.heap.size w wr) (fun _ vi _=>k-(Go.RowKit.intOf vi).toNat)
 case atStart=>exact ⟨0,[],none,0,rfl,rfl,zly _,by simp,World.ownsRow_nil _ _ _ _,Below.refl _ _⟩
 case round=>
  obtain⟨i,acc,A6,c6,rfl,rfl,hik,hacc,hrow,hb⟩:=hrel;have hWr:Below w.heap.size w wr:=hb;have hws:w.heap.size<=wr.heap.size:=hb.size
  by_cases hlt:i<k
  case neg=>
   obtain rfl:k=i:=oQ
   rw [zmy (by rw [HLN.out];exact zhy _)] at hacc
   have HA:=hdQ hacc;have HR:=hdQ hrow;have HW:=hdQ hWr;clear hacc hrow hb hWr hlt;go_wp2_with fail;go_ret;exact⟨_,rfl,by rw [<-HA.out];exact HR.out,HW.out⟩
  have L:=HH.out.tr hWr;obtain⟨m0,m1,m2,mlt⟩:=L.n0 HN.out;rw [HS.out,HLN.out] at m2;have hn0:(i:Int)<(k:Int):=oQ
  obtain⟨e,hx⟩:∃e,(t.es n)[i]? =some e:=⟨(t.es n)[i]'(by rw [HLN.out];exact hlt),zby _⟩
  have hmem:=zjy hx
  have hstep:((t.es n).take (i+1)).flatMap (belS t l)=acc++belS t l e:=by
   rw [zwy,hx,List.flatMap_append,<-hacc]
   simp
  have hal:(acc++belS t l e).length<=100000:=by
   rw [<-hstep]
   exact zcy (qj8 _ _ _) HFew.out
  obtain⟨g,c',hv,hgl,r0,r1,r2⟩:=qdw (L.row n l HN.out (fun q=>q)) hx
  rw [HS.out] at hv;injection hv with hv1 hv2 hv3
  subst hv1 hv3;obtain⟨Ak,ck,ekv,_⟩:=(L.ekey n l e HN.out hmem).bys;rw [ekv] at r0;have HRow:=hdQ hrow;have HB:=hdQ hb;have HSt:=hdQ hstep;have HAl:=hdQ hal;have HMem:=hdQ hmem
  obtain⟨rv,hrv⟩:∃a,(if decide (l=0)=true then Value.pointer none else .pointer (some ⟨e.kid,0,none⟩))=Value.pointer a:=by
   split
   · exact⟨none,rfl⟩
   · exact⟨_,rfl⟩
  simp only [gP] at r2;rw [hrv] at r2;have HRV:=hdQ hrv;clear hx hmem L hv2 ekv hacc hrow hb hstep hal hWr hrv;obtain⟨i0,hi,iz0,iz1,iz2⟩:=info_parts Tryz.infoIY
  cases l with
  | zero=>
    rw [show decide (0=0)=true from rfl] at m1
    have HE:Hid (belS t 0 e= [e.id]):=rfl;rw [HE.out] at HSt HAl
    go_wp2_with (at_builtin;go_must (refine wpList_append_own _ rfl _ _ 43 rfl w.heap.size 3 i0 (.int .i64 0) 1 8 Tryz.underlying43 hi iz0 iz1 iz2 rfl dE _ _ _ rfl (qam HRow.out (qag (show Below wr.heap.size wr _ from bel)) sI) ⟨wr.heap.size+1,0,none⟩ 1 1 [.int .i64 e.id] rfl rfl q5b (qko [e.id]) ?c3 ?c4 ?c5 ?_))
    case c3=>have:=HAl.out;rw [zny] at this;unfold maxLen;simp at this;omega
    case c4=>have:=HAl.out;rw [zny] at this;simp at this;omega
    case c5=>first|omega|(simp;omega)
    intro v8 w8 hown8 hg8 _;obtain⟨A8,c8,rfl,_,_,_⟩:=qaq hown8;have hal:Below wr.heap.size wr ((wr.alloc (.cells #[.slice Ak e.kb.length ck,.int .i64 e.id,.pointer rv] 96)).alloc (.cells #[.int .i64 e.id] 3)):=bel;have hzz:=hal.size;have HB11:=hdQ (HB.out.trans ((hal.mono hws).trans ((Below.refl _ _).grown hg8 (by simp;omega) (fun k e=>(HRow.out.lt k e).1))))
    have hl:(acc++ [e.id]).length=acc.length+1:=sI
    have HR11:=hdQ (show w8.ownsRow w.heap.size 3 1 (.slice A8 (acc++ [e.id]).length c8) (acc++ [e.id]).length (idcs (acc++ [e.id])) from by
     rw [hl]
     unfold idcs
     rw [zfx]
     exact hown8)
    clear hown8 hg8 hal;go_wp2_with fail
    go_roundw
    case rel=>exact ⟨i+1,acc++ [e.id],A8,c8,by rw [hl],by go_num,by omega,by rw [HSt.out],HR11.out,HB11.out⟩
    case measure=>simp [Go.RowKit.intOf];omega
  | succ l=>
    rw [show decide (l+1=0)=false by simp] at m1
    obtain rfl:rv=some ⟨e.kid,0,none⟩:=by have:=HRV.out;simpa using this.symm
    have hkid:=(HSh.out.kid n l e HN.out HMem.out).1;have HI:=hdQ (fun W (hW:Below wr.heap.size wr W)=>HIH.out l e.kid rfl hkid W (HB.out.trans (hW.mono HB.out.size)))
    have HE:Hid (belS t (l+1) e=below t l e.kid):=rfl;rw [HE.out] at HSt HAl;clear HRV hkid;generalize below t l e.kid=ys at*
    go_wp2_with (first|(go_at_call 42;(refine(HI.out _ bel).mono ?_);rintro e' w7 ⟨v7,rfl,ho7,hb7⟩;have HO7:=hdQ ho7;obtain⟨hc7,hf7,hz7⟩:=bc3 hb7;(try simp at hz7);have HB7:=hdQ (HB.out.trans ((show Below wr.heap.size wr w7 from bel).mono HB.out.size));have HR7:=hdQ (qam HRow.out (qag (show Below wr.heap.size wr w7 from bel)) sI);clear ho7)|(at_builtin;go_must (refine qff rfl _ _ 43 rfl w.heap.size 3 i0 (.int .i64 0) 1 8 Tryz.underlying43 hi iz0 iz1 iz2 rfl dE _ _ _ rfl HR7.out _ _ _ _ rfl HO7.out (qko _) ?c3 ?c4 ?c5 ?_)))
    case c3=>have:=HAl.out;rw [zny] at this;unfold maxLen;omega
    case c4=>have:=HAl.out;rw [zny] at this;omega
    case c5=>omega
    intro v8 w8 hown8 hg8;obtain⟨A8,c8,rfl,_,_,_⟩:=qaq hown8;have HB11:=hdQ (HB7.out.trans ((Below.refl _ _).grown hg8 oQ (fun k e=>(HR7.out.lt k e).1)))
    have hl:(acc++ys).length=acc.length+ys.length:=sI
    have HR11:=hdQ (show w8.ownsRow w.heap.size 3 1 (.slice A8 (acc++ys).length c8) (acc++ys).length (idcs (acc++ys)) from by
     rw [hl]
     unfold idcs
     rw [zfx]
     exact hown8)
    clear hown8 hg8;go_wp2_with fail
    go_roundw
    case rel=>exact ⟨i+1,acc++ys,A8,c8,by rw [hl],by go_num,by omega,HSt.out.symm,HR11.out,HB11.out⟩
    case measure=>simp [Go.RowKit.intOf];omega
end
end Go.Proofs.YtfnhnjbkkggbeaaGreat

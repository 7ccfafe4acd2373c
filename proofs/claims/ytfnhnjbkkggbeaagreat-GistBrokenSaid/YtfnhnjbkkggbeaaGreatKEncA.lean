/-Bytes in memory;contracts of enc.Varint,Signed,and of the reference's.-/
import Derived.Test.YtfnhnjbkkggbeaaGreatKPlane
import Derived.Test.YtfnhnjbkkggbeaaGreatKLex
import Derived.Lib.VarintBits
import Derived.Lib.Zigzag
set_option linter.unusedVariables false
set_option linter.unusedSimpArgs false
set_option maxHeartbeats 32000000
set_option maxRecDepth 100000
namespace Go.Proofs.YtfnhnjbkkggbeaaGreat
open Go.RowKit Pg
theorem qjr {P:Program} {c:Code} {Q:Exit->Act->World->Prop} {a:Act} {w:World} (R:World->Prop) (h:R w) (k:∀w2,R w2->c.wp P Q a w2):c.wp P Q a w:=k w h
theorem qco {P:Program} {f:Func} {Q:Ending->World->Prop} {x:Exit} {a:Act} {w:World} (R:World->Prop) (h:R w) (k:∀w2,R w2->bodyPost P f Q x a w2):bodyPost P f Q x a w:=k w h
def qap (l:List Nat):List Value:=l.map fun c:Nat=> .int .u8 (c:Int)
def qbm (w:World) (B:Nat) (A:Option Addr) (n:Nat) (l:List Nat):Prop:=
 l.length=n/\(0<n->∃b off,A=some ⟨b,off,none⟩/\b<B/\∀k c:Nat,l[k]? =some c->w.cell? ⟨b,off+k,none⟩=some (.int .u8 (c:Int)))
theorem qbm.keep {w w' :World} {B n:Nat} {A:Option Addr} {l:List Nat} (h:qbm w B A n l) (hk:∀p:Addr,p.block<B->w'.cell? p=w.cell? p):qbm w' B A n l:=
 ⟨h.1,fun hn=>by
  obtain⟨b,off,e,hb,hc⟩:=h.2 hn
  exact⟨b,off,e,hb,fun k p hp=>(hk _ hb).trans (hc k p hp)⟩⟩
theorem qbm.below {w w' :World} {B n:Nat} {A:Option Addr} {l:List Nat} (h:qbm w B A n l) (hb:Below B w w'):qbm w' B A n l:=h.keep fun _ hp=>hb.cell hp
theorem qbm.tr {W w1:World} {B n:Nat} {A:Option Addr} {l:List Nat} (h:qbm W B A n l) (hb:Below W.heap.size W w1) (hB:B<=W.heap.size):qbm w1 B A n l:=h.below (hb.mono hB)
theorem qbm.more {w:World} {B B' n:Nat} {A:Option Addr} {l:List Nat} (h:qbm w B A n l) (hB:B<=B'):qbm w B' A n l:=
 ⟨h.1,fun hn=>by
  obtain⟨b,off,e,hb,hc⟩:=h.2 hn
  exact⟨b,off,e,by omega,hc⟩⟩
theorem qbm.at_ {w:World} {B n:Nat} {A:Option Addr} {l:List Nat} (h:qbm w B A n l) {k:Nat} (hk:k<n):
 ∃b off,A=some ⟨b,off,none⟩/\b<B/\w.cell? ⟨b,off+k,none⟩=some (.int .u8 ((l.getD k 0:Nat):Int)):=by
 obtain⟨b,off,e,hb,hc⟩:=h.2 oQ
 have hl:k<l.length:=by rw [h.1];exact hk
 exact⟨b,off,e,hb,hc k _ (by rw [zpy,zby hl];rfl)⟩
theorem qbm.from_ {w:World} {B n:Nat} {b off:Nat} {l:List Nat} (h:qbm w B (some ⟨b,off,none⟩) n l) {k:Nat} (hk:k<=n):qbm w B (some ⟨b,off+k,none⟩) (n-k) (l.drop k):=by
 refine⟨by rw [List.length_drop,h.1],fun hn=> ?_⟩
 obtain⟨b',off',e,hb,hc⟩:=h.2 oQ
 injection e with e
 injection e with e1 e2
 subst e1 e2;refine⟨b,off+k,rfl,hb,fun j c hj=> ?_⟩
 rw [List.getElem?_drop] at hj
 rw [Nat.add_assoc]
 exact hc _ c hj
theorem qit {w:World} {base:Nat} {e:TypeId} {v:Value} {n:Nat} {l:List Nat} (h:w.ownsRow base e 1 v n (qap l)):
 ∃A c,v=.slice A n c/\qbm w w.heap.size A n l/\l.length=n:=by
 obtain⟨h1,h2⟩:=h;have hl:l.length=n:=by simpa [qap] using h1
 rcases h2 with ⟨rfl,rfl⟩|⟨g,cap,cur,rfl,hg,hh,hc⟩
 · exact⟨none,0,rfl,⟨hl,fun h=>absurd h oQ⟩,hl⟩
 · refine⟨_,cap,rfl,⟨hl,fun hn=>⟨g,0,rfl,lt_of_block hh,fun k p hp=> ?_⟩⟩,hl⟩
   have hown:w.ownsRow base e 1 (.slice (some ⟨g,0,none⟩) n cap) n (qap l):=⟨h1,.inr ⟨g,cap,cur,rfl,hg,hh,hc⟩⟩
   have hk:k<n:=by
    rw [<-hl]
    rcases zry k l.length with h|h
    · exact h
    · rw [zoy h] at hp;cases hp
   simp only [Nat.zero_add]
   rw [hown.cellAt k oQ]
   simp [qap,hp]
theorem qfo (l:List Nat) (c:Nat):qap (l++ [c])=qap l++ [.int .u8 (c:Int)]:=by simp [qap]
theorem qln (l m:List Nat):qap (l++m)=qap l++qap m:=by simp [qap]
theorem qgj (l:List Nat):(qap l).length=l.length:=by simp [qap]
theorem qoi {w:World} {x:Value} {t:TypeId}:∀(j:Nat) (v:Value),[x][j]? =some v->(w.alloc (.cells #[x] t)).cell? ((⟨w.heap.size,0,none⟩:Addr).add j)=some v:=by
 intro j v hj
 match j,hj with
 | 0,hj=>simp at hj;subst hj;simp [Addr.add]
theorem qm1 {k:IntKind} {x:Int}:∀v∈ [Value.int k x],v.oneCell' =true:=by
 intro v hv;simp only [List.mem_cons,List.not_mem_nil,or_false] at hv;subst hv;rfl
theorem Tryz.infoByte:(Tryz.prog.info? 5).map (fun i=>(i.zero,i.size,i.bytes))=some (some (.int .u8 0),1,1):=by kernel_rfl
abbrev RetB (w:World) (l:List Nat):Ending->World->Prop:=fun e w' =>∃s,e=.returned s/\w'.ownsRow w.heap.size 5 1 s l.length (qap l)/\Below w.heap.size w w'
theorem qsw (v:Nat) (hv:v<18446744073709551616) (w:World):C9 251 #[.int .u64 (v:Int)] w (RetB w (vint v)):=by
 obtain⟨i0,hi,hz0,hz1,hz2⟩:=info_parts Tryz.infoByte;have hlen:=qh9 hv
 go_enter Tryz.func251,Tryz.ntmps251
 go_wp2
 go_loopw [0,3] (fun vx vb wr=>∃(y:Nat) (pre:List Nat),vx=.int .u64 y/\y<=v/\vint v=pre++vint y/\wr.ownsRow w.heap.size 5 1 vb pre.length (qap pre)/\Below w.heap.size w wr)
  (fun vx _ _=>(intOf vx).toNat)
 case atStart=>exact ⟨v,[],rfl,zhy _,rfl,World.ownsRow_nil _ _ _ _,Below.refl _ _⟩
 case round=>
  obtain⟨y,pre,rfl,hy,hsplit,hown1,hnx⟩:=hrel
  have hpl:pre.length+(vint y).length<=10:=by
   have h2:=congrArg List.length hsplit;rw [zny] at h2
   omega
  have hyp:=qmp y
  by_cases h128:128<=y
  · have hor:bits .or .u8 ((y:Int)%256) 128=((y%128+128:Nat):Int):=by
     rw [Lib.u8_or128_any _ oQ oQ]
     omega
    go_wp2_with (at_builtin;refine wpList_append_own _ rfl _ _ 94 rfl w.heap.size 5 i0 (.int .u8 0) 1 1 Tryz.underlying94 hi hz0 hz1 hz2 rfl dE _ _ _ rfl (hown1.alloc _) ⟨wr.heap.size,0,none⟩ 1 1 [Value.int .u8 ((y%128+128:Nat):Int)] rfl rfl qoi qm1 ?c3 ?c4 ?c5 ?_)
    case c3=>unfold maxLen;omega
    case c4=>omega
    case c5=>have:=hnx.size;simp;omega
    intro v' w1 hown' hgrow _;have hnx1:Below w.heap.size w w1:=(hnx.alloc (by have:=hnx.size;omega) _).grown hgrow (by have:=hnx.size;simp;omega) (fun k hk=>(hown1.lt k hk).1)
    go_wp2
    go_roundw
    case rel=>
     refine⟨y/128,pre++ [y%128+128],by go_num,by omega,by rw [hsplit,qfp oQ];simp,?_,hnx1⟩
     have ec:((y%128+128:Nat):Int)=(y:Int)%128+128:=oQ
     rw [qfo,zny,List.length_singleton,ec]
     exact hown'
    case measure=>simp [intOf];omega
  · have hsm:vint y= [y]:=qdb oQ
    go_wp2_with (at_builtin;refine wpList_append_own _ rfl _ _ 94 rfl w.heap.size 5 i0 (.int .u8 0) 1 1 Tryz.underlying94 hi hz0 hz1 hz2 rfl dE _ _ _ rfl (hown1.alloc _) ⟨wr.heap.size,0,none⟩ 1 1 [Value.int .u8 (y:Int)] rfl rfl qoi qm1 ?c3 ?c4 ?c5 ?_)
    case c3=>unfold maxLen;omega
    case c4=>omega
    case c5=>have:=hnx.size;simp;omega
    intro v' w1 hown' hgrow _;have hnx1:Below w.heap.size w w1:=(hnx.alloc (by have:=hnx.size;omega) _).grown hgrow (by have:=hnx.size;simp;omega) (fun k hk=>(hown1.lt k hk).1)
    go_wp2;go_ret;refine⟨v',rfl,?_,hnx1⟩
    rw [hsplit,hsm,qfo,zny,List.length_singleton]
    exact hown'
theorem qp0 (v:Nat) (hv:v<18446744073709551616) (w:World):C9 209 #[.int .u64 (v:Int)] w (RetB w (vint v)):=by
 obtain⟨i0,hi,hz0,hz1,hz2⟩:=info_parts Tryz.infoByte;have hlen:=qh9 hv
 go_enter Tryz.func209,Tryz.ntmps209
 go_wp2
 go_loopw [0,3] (fun vx vb wr=>∃(y:Nat) (pre:List Nat),vx=.int .u64 y/\y<=v/\vint v=pre++vint y/\wr.ownsRow w.heap.size 5 1 vb pre.length (qap pre)/\Below w.heap.size w wr)
  (fun vx _ _=>(intOf vx).toNat)
 case atStart=>exact ⟨v,[],rfl,zhy _,rfl,World.ownsRow_nil _ _ _ _,Below.refl _ _⟩
 case round=>
  obtain⟨y,pre,rfl,hy,hsplit,hown1,hnx⟩:=hrel
  have hpl:pre.length+(vint y).length<=10:=by
   have h2:=congrArg List.length hsplit;rw [zny] at h2
   omega
  have hyp:=qmp y
  by_cases h128:128<=y
  · have hand:bits .and .u64 (y:Int) 127=(y:Int)%128:=by
     have h:=bits_mask .u64 64 dE wraps_u64 7 dE (y:Int) oQ oQ
     rw [show (2:Int) ^ 7-1=127 by decide] at h
     rw [h,show (2:Int) ^ 7=128 by decide]
    have hor:bits .or .u64 (bits .and .u64 (y:Int) 127) 128=((y%128+128:Nat):Int):=by
     rw [hand,u64_orv7 _ _ oQ oQ oQ oQ oQ]
     omega
    clear hand;have hw:((y:Int)%128+128)%256=(y:Int)%128+128:=oQ
    go_wp2_with (at_builtin;refine wpList_append_own _ rfl _ _ 94 rfl w.heap.size 5 i0 (.int .u8 0) 1 1 Tryz.underlying94 hi hz0 hz1 hz2 rfl dE _ _ _ rfl (hown1.alloc _) ⟨wr.heap.size,0,none⟩ 1 1 [Value.int .u8 ((y%128+128:Nat):Int)] rfl rfl qoi qm1 ?c3 ?c4 ?c5 ?_)
    case c3=>unfold maxLen;omega
    case c4=>omega
    case c5=>have:=hnx.size;simp;omega
    intro v' w1 hown' hgrow _;have hnx1:Below w.heap.size w w1:=(hnx.alloc (by have:=hnx.size;omega) _).grown hgrow (by have:=hnx.size;simp;omega) (fun k hk=>(hown1.lt k hk).1)
    go_wp2
    go_roundw
    case rel=>
     refine⟨y/128,pre++ [y%128+128],by go_num,by omega,by rw [hsplit,qfp oQ];simp,?_,hnx1⟩
     have ec:((y%128+128:Nat):Int)=(y:Int)%128+128:=oQ
     rw [qfo,zny,List.length_singleton,ec]
     exact hown'
    case measure=>simp [intOf];omega
  · have hsm:vint y= [y]:=qdb oQ
    go_wp2_with (at_builtin;refine wpList_append_own _ rfl _ _ 94 rfl w.heap.size 5 i0 (.int .u8 0) 1 1 Tryz.underlying94 hi hz0 hz1 hz2 rfl dE _ _ _ rfl (hown1.alloc _) ⟨wr.heap.size,0,none⟩ 1 1 [Value.int .u8 (y:Int)] rfl rfl qoi qm1 ?c3 ?c4 ?c5 ?_)
    case c3=>unfold maxLen;omega
    case c4=>omega
    case c5=>have:=hnx.size;simp;omega
    intro v' w1 hown' hgrow _;have hnx1:Below w.heap.size w w1:=(hnx.alloc (by have:=hnx.size;omega) _).grown hgrow (by have:=hnx.size;simp;omega) (fun k hk=>(hown1.lt k hk).1)
    go_wp2;go_ret;refine⟨v',rfl,?_,hnx1⟩
    rw [hsplit,hsm,qfo,zny,List.length_singleton]
    exact hown'
theorem q0x {n:Int} (h:in64 n) (hn:n<0):bits .xor .u64 (IntKind.u64.wrap (IntKind.u64.wrap n*2)) (IntKind.u64.wrap (n/9223372036854775808))=(zig n:Int):=by
 obtain⟨h0,h1⟩:=h
 have e1:IntKind.u64.wrap (IntKind.u64.wrap n*2)=(((2*n+18446744073709551616).toNat:Nat):Int):=by
  rw [IntKind.wrap_u64,IntKind.wrap_u64]
  omega
 have e2:IntKind.u64.wrap (n/9223372036854775808)=((2 ^ 64-1:Nat):Int):=by
  rw [show n/9223372036854775808= -1 by omega]
  decide
 rw [e1,e2,bits_xor_u64_nat _ _ oQ dE,Nat.xor_comm,Lib.xor_ones64 _ oQ]
 unfold zig
 rw [if_pos hn]
 omega
theorem q0w {n:Int} (h:in64 n) (hn:¬ n<0):bits .xor .u64 (n*2) (n/9223372036854775808)=(zig n:Int):=by
 obtain⟨h0,h1⟩:=h;have e1:n*2=(((2*n).toNat:Nat):Int):=oQ
 have e2:n/9223372036854775808=((0:Nat):Int):=oQ
 rw [e1,e2,bits_xor_u64_nat _ _ oQ dE,Nat.xor_zero]
 unfold zig
 rw [if_neg hn]
 omega
theorem qgm (n:Int) (h:in64 n) (w:World):C9 245 #[.int .i64 n] w (RetB w (sint n)):=by
 have hV:=qsw (zig n) (qu1 h) w
 by_cases hn:n<0
 · have e:=q0x h hn
   obtain⟨h0,h1⟩:=h
   go_enter Tryz.func245,Tryz.ntmps245
   go_wp2_with (go_at_call 251;(try simp only [e]);refine hV.mono ?_;rintro e w1 ⟨s,rfl,ho,hb⟩)
   go_ret;exact⟨s,rfl,ho,hb⟩
 · have e:=q0w h hn
   obtain⟨h0,h1⟩:=h
   go_enter Tryz.func245,Tryz.ntmps245
   go_wp2_with (go_at_call 251;(try simp only [e]);refine hV.mono ?_;rintro e w1 ⟨s,rfl,ho,hb⟩)
   go_ret;exact⟨s,rfl,ho,hb⟩
theorem qfr (n:Int) (h:in64 n) (w:World):C9 198 #[.int .i64 n] w (RetB w (sint n)):=by
 have hV:=qp0 (zig n) (qu1 h) w;obtain⟨h0,h1⟩:=h
 by_cases hn:n<0
 · have e: -(n+1)*2+1=(zig n:Int):=by unfold zig;rw [if_pos hn];omega
   go_enter Tryz.func198,Tryz.ntmps198
   go_wp2_with (go_at_call 209;(try simp only [e]);refine hV.mono ?_;rintro e w1 ⟨s,rfl,ho,hb⟩)
   go_ret;exact⟨s,rfl,ho,hb⟩
 · have e:n*2=(zig n:Int):=by unfold zig;rw [if_neg hn];omega
   go_enter Tryz.func198,Tryz.ntmps198
   go_wp2_with (go_at_call 209;(try simp only [e]);refine hV.mono ?_;rintro e w1 ⟨s,rfl,ho,hb⟩)
   go_ret;exact⟨s,rfl,ho,hb⟩
theorem qu5 (l:List Nat) (a:Nat):uv l 10 a=(0,0):=by
 cases l with
 | nil=>rfl
 | cons c r=>simp [uv]
theorem qmv (B n c:Nat) (A:Option Addr) (l:List Nat) (w:World) (hl:qbm w B A n l) (h256:∀x∈l,x<256) (hB:B<=w.heap.size) (hn:n<=1000000):
 C9 212 #[.slice A n c] w (Ret w (.tuple #[.int .u64 ((uv l 0 0).1:Nat),.int .i64 ((uv l 0 0).2:Nat)])):=by
 obtain⟨R1,R2,hR⟩:∃R1 R2,uv l 0 0=(R1,R2):=⟨_,_,rfl⟩
 rw [hR]
 simp only
 go_enter Tryz.func212,Tryz.ntmps212
 go_wp2
 go_loopw [4,5] (fun vx vi wr=>∃k acc:Nat,vi=.int .i64 k/\vx=.int .u64 acc/\k<=10/\k<=n/\((R1,R2)=uv (l.drop k) k acc/\acc<2 ^ (7*k))/\Below w.heap.size w wr) (fun _ vi _=>n-(intOf vi).toNat)
 case atStart=>exact ⟨0,0,rfl,rfl,by omega,by omega,⟨hR.symm,by decide⟩,Below.refl _ _⟩
 case round=>
  obtain⟨k,acc,rfl,rfl,hk10,hkn,⟨hdec,hacc⟩,hbl⟩:=hrel
  by_cases hk:k<n
  · obtain⟨blk,off,rfl,hab,hc⟩:=(hl.below (hbl.mono hB)).at_ hk
    have hlen:k<l.length:=by rw [hl.1];exact hk
    have hget:l.getD k 0=l[k]:=by rw [zpy,zby hlen];rfl
    have hdrop:l.drop k=l.getD k 0::l.drop (k+1):=by rw [hget];exact zgx hlen
    have hb256:l.getD k 0<256:=by rw [hget];exact h256 _ (List.getElem_mem hlen)
    rw [hdrop] at hdec;generalize l.getD k 0=b at hc hdec hb256;clear hdrop hget h256;have hks:k=0\/k=1\/k=2\/k=3\/k=4\/k=5\/k=6\/k=7\/k=8\/k=9\/k=10:=oQ
    have hl:=hdQ hl;have hR:=hdQ hR
    rcases hks with rfl|rfl|rfl|rfl|rfl|rfl|rfl|rfl|rfl|rfl|rfl
    · -- byte 0
      obtain rfl:acc=0:=by simpa using hacc
      have hc0:wr.cell? ⟨blk,off,none⟩=some (.int .u8 (b:Int)):=hc
      by_cases hb:b<128
      · by_cases hb0:b=0
        · subst hb0
          have hF:uv (0::l.drop (0+1)) 0 0=(0,1):=by simp [uv]
          rw [hF] at hdec;obtain⟨rfl,rfl⟩:=Prod.mk.inj hdec;clear hdec;go_wp2
          go_ret2
          exact⟨by first|rfl|(simp;done)|(congr 3;omega),bel⟩
        · have hF:uv (b::l.drop (0+1)) 0 0=(0+b*1,1):=by
           simp only [uv]
           rw [if_neg oQ,if_neg oQ,if_pos hb,if_neg oQ,zzy hb]
          rw [hF] at hdec
          have hor:bits .or .u64 0 (IntKind.u64.wrap (IntKind.u64.wrap (bits .and .u8 (b:Int) 127)))=((0+b*1:Nat):Int):=by
           simp (disch:=omega) only [u8_and127,u64_wrap_id,u64_orv0]
           omega
          obtain⟨rfl,rfl⟩:=Prod.mk.inj hdec;clear hdec;go_wp2
          go_ret2
          exact⟨by first|rfl|(simp;done)|(congr 3;omega),bel⟩
      · have hF:uv (b::l.drop (0+1)) 0 0=uv (l.drop (0+1)) 1 (0+b%128*1):=by
         simp only [uv]
         rw [if_neg oQ,if_neg oQ,if_neg hb]
         first|done|rfl|simp
        have hv:bits .or .u64 0 (IntKind.u64.wrap (IntKind.u64.wrap (bits .and .u8 (b:Int) 127)))=((0+b%128*1:Nat):Int):=by
         simp (disch:=omega) only [u8_and127,u64_wrap_id,u64_orv0]
         omega
        have hlim:0+b%128*1<128:=oQ
        have HN:Hid ((R1,R2)=uv (l.drop 1) 1 (0+b%128*1)/\0+b%128*1<2 ^ (7*1)):=⟨hdec.trans hF,by simpa using hlim⟩
        clear hdec;go_wp2
        go_roundw
        case rel=>exact ⟨1,0+b%128*1,by first|rfl|(simp;done),by first|rfl|go_num,by omega,by omega,HN.out,bel⟩
        case measure=>simp [intOf];omega
    · -- byte 1
      have hacc' :acc<128:=by simpa using hacc
      clear hacc
      by_cases hb:b<128
      · by_cases hb0:b=0
        · subst hb0
          have hF:uv (0::l.drop (1+1)) 1 acc=(0,0):=by simp [uv]
          rw [hF] at hdec;obtain⟨rfl,rfl⟩:=Prod.mk.inj hdec;clear hdec;go_wp2
          go_ret2
          exact⟨rfl,bel⟩
        · have hF:uv (b::l.drop (1+1)) 1 acc=(acc+b*128,2):=by
           simp only [uv]
           rw [if_neg oQ,if_neg oQ,if_pos hb,if_neg oQ,zzy hb]
          rw [hF] at hdec
          have hor:bits .or .u64 (acc:Int) (IntKind.u64.wrap (IntKind.u64.wrap (bits .and .u8 (b:Int) 127)*128))=((acc+b*128:Nat):Int):=by
           simp (disch:=omega) only [u8_and127,u64_wrap_id,u64_orv7]
           omega
          obtain⟨rfl,rfl⟩:=Prod.mk.inj hdec;clear hdec;go_wp2
          go_ret2
          exact⟨by first|rfl|(simp;done)|(congr 3;omega),bel⟩
      · have hF:uv (b::l.drop (1+1)) 1 acc=uv (l.drop (1+1)) 2 (acc+b%128*128):=by
         simp only [uv]
         rw [if_neg oQ,if_neg oQ,if_neg hb]
         first|done|rfl|simp
        have hv:bits .or .u64 (acc:Int) (IntKind.u64.wrap (IntKind.u64.wrap (bits .and .u8 (b:Int) 127)*128))=((acc+b%128*128:Nat):Int):=by
         simp (disch:=omega) only [u8_and127,u64_wrap_id,u64_orv7]
         omega
        have hlim:acc+b%128*128<16384:=oQ
        have HN:Hid ((R1,R2)=uv (l.drop 2) 2 (acc+b%128*128)/\acc+b%128*128<2 ^ (7*2)):=⟨hdec.trans hF,by simpa using hlim⟩
        clear hdec;go_wp2
        go_roundw
        case rel=>exact ⟨2,acc+b%128*128,by first|rfl|(simp;done),by first|rfl|go_num,by omega,by omega,HN.out,bel⟩
        case measure=>simp [intOf];omega
    · -- byte 2
      have hacc' :acc<16384:=by simpa using hacc
      clear hacc
      by_cases hb:b<128
      · by_cases hb0:b=0
        · subst hb0
          have hF:uv (0::l.drop (2+1)) 2 acc=(0,0):=by simp [uv]
          rw [hF] at hdec;obtain⟨rfl,rfl⟩:=Prod.mk.inj hdec;clear hdec;go_wp2
          go_ret2
          exact⟨rfl,bel⟩
        · have hF:uv (b::l.drop (2+1)) 2 acc=(acc+b*16384,3):=by
           simp only [uv]
           rw [if_neg oQ,if_neg oQ,if_pos hb,if_neg oQ,zzy hb]
          rw [hF] at hdec
          have hor:bits .or .u64 (acc:Int) (IntKind.u64.wrap (IntKind.u64.wrap (bits .and .u8 (b:Int) 127)*16384))=((acc+b*16384:Nat):Int):=by
           simp (disch:=omega) only [u8_and127,u64_wrap_id,u64_orv14]
           omega
          obtain⟨rfl,rfl⟩:=Prod.mk.inj hdec;clear hdec;go_wp2
          go_ret2
          exact⟨by first|rfl|(simp;done)|(congr 3;omega),bel⟩
      · have hF:uv (b::l.drop (2+1)) 2 acc=uv (l.drop (2+1)) 3 (acc+b%128*16384):=by
         simp only [uv]
         rw [if_neg oQ,if_neg oQ,if_neg hb]
         first|done|rfl|simp
        have hv:bits .or .u64 (acc:Int) (IntKind.u64.wrap (IntKind.u64.wrap (bits .and .u8 (b:Int) 127)*16384))=((acc+b%128*16384:Nat):Int):=by
         simp (disch:=omega) only [u8_and127,u64_wrap_id,u64_orv14]
         omega
        have hlim:acc+b%128*16384<2097152:=oQ
        have HN:Hid ((R1,R2)=uv (l.drop 3) 3 (acc+b%128*16384)/\acc+b%128*16384<2 ^ (7*3)):=⟨hdec.trans hF,by simpa using hlim⟩
        clear hdec;go_wp2
        go_roundw
        case rel=>exact ⟨3,acc+b%128*16384,by first|rfl|(simp;done),by first|rfl|go_num,by omega,by omega,HN.out,bel⟩
        case measure=>simp [intOf];omega
    · -- byte 3
      have hacc' :acc<2097152:=by simpa using hacc
      clear hacc
      by_cases hb:b<128
      · by_cases hb0:b=0
        · subst hb0
          have hF:uv (0::l.drop (3+1)) 3 acc=(0,0):=by simp [uv]
          rw [hF] at hdec;obtain⟨rfl,rfl⟩:=Prod.mk.inj hdec;clear hdec;go_wp2
          go_ret2
          exact⟨rfl,bel⟩
        · have hF:uv (b::l.drop (3+1)) 3 acc=(acc+b*2097152,4):=by
           simp only [uv]
           rw [if_neg oQ,if_neg oQ,if_pos hb,if_neg oQ,zzy hb]
          rw [hF] at hdec
          have hor:bits .or .u64 (acc:Int) (IntKind.u64.wrap (IntKind.u64.wrap (bits .and .u8 (b:Int) 127)*2097152))=((acc+b*2097152:Nat):Int):=by
           simp (disch:=omega) only [u8_and127,u64_wrap_id,u64_orv21]
           omega
          obtain⟨rfl,rfl⟩:=Prod.mk.inj hdec;clear hdec;go_wp2
          go_ret2
          exact⟨by first|rfl|(simp;done)|(congr 3;omega),bel⟩
      · have hF:uv (b::l.drop (3+1)) 3 acc=uv (l.drop (3+1)) 4 (acc+b%128*2097152):=by
         simp only [uv]
         rw [if_neg oQ,if_neg oQ,if_neg hb]
         first|done|rfl|simp
        have hv:bits .or .u64 (acc:Int) (IntKind.u64.wrap (IntKind.u64.wrap (bits .and .u8 (b:Int) 127)*2097152))=((acc+b%128*2097152:Nat):Int):=by
         simp (disch:=omega) only [u8_and127,u64_wrap_id,u64_orv21]
         omega
        have hlim:acc+b%128*2097152<268435456:=oQ
        have HN:Hid ((R1,R2)=uv (l.drop 4) 4 (acc+b%128*2097152)/\acc+b%128*2097152<2 ^ (7*4)):=⟨hdec.trans hF,by simpa using hlim⟩
        clear hdec;go_wp2
        go_roundw
        case rel=>exact ⟨4,acc+b%128*2097152,by first|rfl|(simp;done),by first|rfl|go_num,by omega,by omega,HN.out,bel⟩
        case measure=>simp [intOf];omega
    · -- byte 4
      have hacc' :acc<268435456:=by simpa using hacc
      clear hacc
      by_cases hb:b<128
      · by_cases hb0:b=0
        · subst hb0
          have hF:uv (0::l.drop (4+1)) 4 acc=(0,0):=by simp [uv]
          rw [hF] at hdec;obtain⟨rfl,rfl⟩:=Prod.mk.inj hdec;clear hdec;go_wp2
          go_ret2
          exact⟨rfl,bel⟩
        · have hF:uv (b::l.drop (4+1)) 4 acc=(acc+b*268435456,5):=by
           simp only [uv]
           rw [if_neg oQ,if_neg oQ,if_pos hb,if_neg oQ,zzy hb]
          rw [hF] at hdec
          have hor:bits .or .u64 (acc:Int) (IntKind.u64.wrap (IntKind.u64.wrap (bits .and .u8 (b:Int) 127)*268435456))=((acc+b*268435456:Nat):Int):=by
           simp (disch:=omega) only [u8_and127,u64_wrap_id,u64_orv28]
           omega
          obtain⟨rfl,rfl⟩:=Prod.mk.inj hdec;clear hdec;go_wp2
          go_ret2
          exact⟨by first|rfl|(simp;done)|(congr 3;omega),bel⟩
      · have hF:uv (b::l.drop (4+1)) 4 acc=uv (l.drop (4+1)) 5 (acc+b%128*268435456):=by
         simp only [uv]
         rw [if_neg oQ,if_neg oQ,if_neg hb]
         first|done|rfl|simp
        have hv:bits .or .u64 (acc:Int) (IntKind.u64.wrap (IntKind.u64.wrap (bits .and .u8 (b:Int) 127)*268435456))=((acc+b%128*268435456:Nat):Int):=by
         simp (disch:=omega) only [u8_and127,u64_wrap_id,u64_orv28]
         omega
        have hlim:acc+b%128*268435456<34359738368:=oQ
        have HN:Hid ((R1,R2)=uv (l.drop 5) 5 (acc+b%128*268435456)/\acc+b%128*268435456<2 ^ (7*5)):=⟨hdec.trans hF,by simpa using hlim⟩
        clear hdec;go_wp2
        go_roundw
        case rel=>exact ⟨5,acc+b%128*268435456,by first|rfl|(simp;done),by first|rfl|go_num,by omega,by omega,HN.out,bel⟩
        case measure=>simp [intOf];omega
    · -- byte 5
      have hacc' :acc<34359738368:=by simpa using hacc
      clear hacc
      by_cases hb:b<128
      · by_cases hb0:b=0
        · subst hb0
          have hF:uv (0::l.drop (5+1)) 5 acc=(0,0):=by simp [uv]
          rw [hF] at hdec;obtain⟨rfl,rfl⟩:=Prod.mk.inj hdec;clear hdec;go_wp2
          go_ret2
          exact⟨rfl,bel⟩
        · have hF:uv (b::l.drop (5+1)) 5 acc=(acc+b*34359738368,6):=by
           simp only [uv]
           rw [if_neg oQ,if_neg oQ,if_pos hb,if_neg oQ,zzy hb]
          rw [hF] at hdec
          have hor:bits .or .u64 (acc:Int) (IntKind.u64.wrap (IntKind.u64.wrap (bits .and .u8 (b:Int) 127)*34359738368))=((acc+b*34359738368:Nat):Int):=by
           simp (disch:=omega) only [u8_and127,u64_wrap_id,u64_orv35]
           omega
          obtain⟨rfl,rfl⟩:=Prod.mk.inj hdec;clear hdec;go_wp2
          go_ret2
          exact⟨by first|rfl|(simp;done)|(congr 3;omega),bel⟩
      · have hF:uv (b::l.drop (5+1)) 5 acc=uv (l.drop (5+1)) 6 (acc+b%128*34359738368):=by
         simp only [uv]
         rw [if_neg oQ,if_neg oQ,if_neg hb]
         first|done|rfl|simp
        have hv:bits .or .u64 (acc:Int) (IntKind.u64.wrap (IntKind.u64.wrap (bits .and .u8 (b:Int) 127)*34359738368))=((acc+b%128*34359738368:Nat):Int):=by
         simp (disch:=omega) only [u8_and127,u64_wrap_id,u64_orv35]
         omega
        have hlim:acc+b%128*34359738368<4398046511104:=oQ
        have HN:Hid ((R1,R2)=uv (l.drop 6) 6 (acc+b%128*34359738368)/\acc+b%128*34359738368<2 ^ (7*6)):=⟨hdec.trans hF,by simpa using hlim⟩
        clear hdec;go_wp2
        go_roundw
        case rel=>exact ⟨6,acc+b%128*34359738368,by first|rfl|(simp;done),by first|rfl|go_num,by omega,by omega,HN.out,bel⟩
        case measure=>simp [intOf];omega
    · -- byte 6
      have hacc' :acc<4398046511104:=by simpa using hacc
      clear hacc
      by_cases hb:b<128
      · by_cases hb0:b=0
        · subst hb0
          have hF:uv (0::l.drop (6+1)) 6 acc=(0,0):=by simp [uv]
          rw [hF] at hdec;obtain⟨rfl,rfl⟩:=Prod.mk.inj hdec;clear hdec;go_wp2
          go_ret2
          exact⟨rfl,bel⟩
        · have hF:uv (b::l.drop (6+1)) 6 acc=(acc+b*4398046511104,7):=by
           simp only [uv]
           rw [if_neg oQ,if_neg oQ,if_pos hb,if_neg oQ,zzy hb]
          rw [hF] at hdec
          have hor:bits .or .u64 (acc:Int) (IntKind.u64.wrap (IntKind.u64.wrap (bits .and .u8 (b:Int) 127)*4398046511104))=((acc+b*4398046511104:Nat):Int):=by
           simp (disch:=omega) only [u8_and127,u64_wrap_id,u64_orv42]
           omega
          obtain⟨rfl,rfl⟩:=Prod.mk.inj hdec;clear hdec;go_wp2
          go_ret2
          exact⟨by first|rfl|(simp;done)|(congr 3;omega),bel⟩
      · have hF:uv (b::l.drop (6+1)) 6 acc=uv (l.drop (6+1)) 7 (acc+b%128*4398046511104):=by
         simp only [uv]
         rw [if_neg oQ,if_neg oQ,if_neg hb]
         first|done|rfl|simp
        have hv:bits .or .u64 (acc:Int) (IntKind.u64.wrap (IntKind.u64.wrap (bits .and .u8 (b:Int) 127)*4398046511104))=((acc+b%128*4398046511104:Nat):Int):=by
         simp (disch:=omega) only [u8_and127,u64_wrap_id,u64_orv42]
         omega
        have hlim:acc+b%128*4398046511104<562949953421312:=oQ
        have HN:Hid ((R1,R2)=uv (l.drop 7) 7 (acc+b%128*4398046511104)/\acc+b%128*4398046511104<2 ^ (7*7)):=⟨hdec.trans hF,by simpa using hlim⟩
        clear hdec;go_wp2
        go_roundw
        case rel=>exact ⟨7,acc+b%128*4398046511104,by first|rfl|(simp;done),by first|rfl|go_num,by omega,by omega,HN.out,bel⟩
        case measure=>simp [intOf];omega
    · -- byte 7
      have hacc' :acc<562949953421312:=by simpa using hacc
      clear hacc
      by_cases hb:b<128
      · by_cases hb0:b=0
        · subst hb0
          have hF:uv (0::l.drop (7+1)) 7 acc=(0,0):=by simp [uv]
          rw [hF] at hdec;obtain⟨rfl,rfl⟩:=Prod.mk.inj hdec;clear hdec;go_wp2
          go_ret2
          exact⟨rfl,bel⟩
        · have hF:uv (b::l.drop (7+1)) 7 acc=(acc+b*562949953421312,8):=by
           simp only [uv]
           rw [if_neg oQ,if_neg oQ,if_pos hb,if_neg oQ,zzy hb]
          rw [hF] at hdec
          have hor:bits .or .u64 (acc:Int) (IntKind.u64.wrap (IntKind.u64.wrap (bits .and .u8 (b:Int) 127)*562949953421312))=((acc+b*562949953421312:Nat):Int):=by
           simp (disch:=omega) only [u8_and127,u64_wrap_id,u64_orv49]
           omega
          obtain⟨rfl,rfl⟩:=Prod.mk.inj hdec;clear hdec;go_wp2
          go_ret2
          exact⟨by first|rfl|(simp;done)|(congr 3;omega),bel⟩
      · have hF:uv (b::l.drop (7+1)) 7 acc=uv (l.drop (7+1)) 8 (acc+b%128*562949953421312):=by
         simp only [uv]
         rw [if_neg oQ,if_neg oQ,if_neg hb]
         first|done|rfl|simp
        have hv:bits .or .u64 (acc:Int) (IntKind.u64.wrap (IntKind.u64.wrap (bits .and .u8 (b:Int) 127)*562949953421312))=((acc+b%128*562949953421312:Nat):Int):=by
         simp (disch:=omega) only [u8_and127,u64_wrap_id,u64_orv49]
         omega
        have hlim:acc+b%128*562949953421312<72057594037927936:=oQ
        have HN:Hid ((R1,R2)=uv (l.drop 8) 8 (acc+b%128*562949953421312)/\acc+b%128*562949953421312<2 ^ (7*8)):=⟨hdec.trans hF,by simpa using hlim⟩
        clear hdec;go_wp2
        go_roundw
        case rel=>exact ⟨8,acc+b%128*562949953421312,by first|rfl|(simp;done),by first|rfl|go_num,by omega,by omega,HN.out,bel⟩
        case measure=>simp [intOf];omega
    · -- byte 8
      have hacc' :acc<72057594037927936:=by simpa using hacc
      clear hacc
      by_cases hb:b<128
      · by_cases hb0:b=0
        · subst hb0
          have hF:uv (0::l.drop (8+1)) 8 acc=(0,0):=by simp [uv]
          rw [hF] at hdec;obtain⟨rfl,rfl⟩:=Prod.mk.inj hdec;clear hdec;go_wp2
          go_ret2
          exact⟨rfl,bel⟩
        · have hF:uv (b::l.drop (8+1)) 8 acc=(acc+b*72057594037927936,9):=by
           simp only [uv]
           rw [if_neg oQ,if_neg oQ,if_pos hb,if_neg oQ,zzy hb]
          rw [hF] at hdec
          have hor:bits .or .u64 (acc:Int) (IntKind.u64.wrap (IntKind.u64.wrap (bits .and .u8 (b:Int) 127)*72057594037927936))=((acc+b*72057594037927936:Nat):Int):=by
           simp (disch:=omega) only [u8_and127,u64_wrap_id,u64_orv56]
           omega
          obtain⟨rfl,rfl⟩:=Prod.mk.inj hdec;clear hdec;go_wp2
          go_ret2
          exact⟨by first|rfl|(simp;done)|(congr 3;omega),bel⟩
      · have hF:uv (b::l.drop (8+1)) 8 acc=uv (l.drop (8+1)) 9 (acc+b%128*72057594037927936):=by
         simp only [uv]
         rw [if_neg oQ,if_neg oQ,if_neg hb]
         first|done|rfl|simp
        have hv:bits .or .u64 (acc:Int) (IntKind.u64.wrap (IntKind.u64.wrap (bits .and .u8 (b:Int) 127)*72057594037927936))=((acc+b%128*72057594037927936:Nat):Int):=by
         simp (disch:=omega) only [u8_and127,u64_wrap_id,u64_orv56]
         omega
        have hlim:acc+b%128*72057594037927936<9223372036854775808:=oQ
        have HN:Hid ((R1,R2)=uv (l.drop 9) 9 (acc+b%128*72057594037927936)/\acc+b%128*72057594037927936<2 ^ (7*9)):=⟨hdec.trans hF,by simpa using hlim⟩
        clear hdec;go_wp2
        go_roundw
        case rel=>exact ⟨9,acc+b%128*72057594037927936,by first|rfl|(simp;done),by first|rfl|go_num,by omega,by omega,HN.out,bel⟩
        case measure=>simp [intOf];omega
    · -- byte 9
      have hacc' :acc<9223372036854775808:=by simpa using hacc
      clear hacc
      by_cases hb:b<128
      · by_cases hb1:1<b
        · have hF:uv (b::l.drop (9+1)) 9 acc=(0,0):=by simp [uv,hb1]
          rw [hF] at hdec;obtain⟨rfl,rfl⟩:=Prod.mk.inj hdec;clear hdec;go_wp2
          go_ret2
          exact⟨rfl,bel⟩
        by_cases hb0:b=0
        · subst hb0
          have hF:uv (0::l.drop (9+1)) 9 acc=(0,0):=by simp [uv]
          rw [hF] at hdec;obtain⟨rfl,rfl⟩:=Prod.mk.inj hdec;clear hdec;go_wp2
          go_ret2
          exact⟨rfl,bel⟩
        · have hF:uv (b::l.drop (9+1)) 9 acc=(acc+b*9223372036854775808,10):=by
           simp only [uv]
           rw [if_neg oQ,if_neg oQ,if_pos hb,if_neg oQ,zzy hb]
          rw [hF] at hdec
          have hor:bits .or .u64 (acc:Int) (IntKind.u64.wrap (IntKind.u64.wrap (bits .and .u8 (b:Int) 127)*9223372036854775808))=((acc+b*9223372036854775808:Nat):Int):=by
           simp (disch:=omega) only [u8_and127,u64_wrap_id,u64_orv63]
           omega
          obtain⟨rfl,rfl⟩:=Prod.mk.inj hdec;clear hdec;go_wp2
          go_ret2
          exact⟨by first|rfl|(simp;done)|(congr 3;omega),bel⟩
      · obtain⟨a2,ha2⟩:∃a2:Nat,bits .or .u64 (acc:Int) (IntKind.u64.wrap (IntKind.u64.wrap (bits .and .u8 (b:Int) 127)*9223372036854775808))=(a2:Int):=⟨_,(Int.toNat_of_nonneg (bits_lo_u64 _ _ _)).symm⟩
        have hhi:=bits_hi_u64 .or (acc:Int) (IntKind.u64.wrap (IntKind.u64.wrap (bits .and .u8 (b:Int) 127)*9223372036854775808))
        have hF:uv (b::l.drop (9+1)) 9 acc=uv (l.drop (9+1)) 10 a2:=by
         rw [qu5]
         simp [uv]
         omega
        rw [hF,qu5] at hdec;obtain⟨rfl,rfl⟩:=Prod.mk.inj hdec;clear hdec;go_wp2
        go_ret2
        exact⟨rfl,bel⟩
    · -- no tenth
      rw [qu5] at hdec;obtain⟨rfl,rfl⟩:=Prod.mk.inj hdec;clear hdec;go_wp2
      go_ret2
      exact⟨rfl,bel⟩
  · have hkn2:k=n:=oQ
    subst hkn2
    rw [List.drop_eq_nil_of_le (by rw [hl.1];exact zhy _)] at hdec
    simp only [uv] at hdec;obtain⟨rfl,rfl⟩:=Prod.mk.inj hdec;clear hdec;go_wp2
    go_ret2
    exact⟨rfl,bel⟩
def decV (n:Nat) (l:List Nat):Value:=match dec l with
 | none=> .tuple #[.int .i64 0,.int .i64 0,.bool false]
 | some (x,r)=> .tuple #[.int .i64 x,.int .i64 ((n-r.length:Nat):Int),.bool true]
theorem q30 {l:List Nat} (hl:∀c∈l,c<256):(uv l 0 0).2<=l.length/\(uv l 0 0).1<18446744073709551616:=by
 by_cases h:(uv l 0 0).2=0
 · refine⟨by omega,?_⟩
   have:∀(l:List Nat) (i acc:Nat),(uv l i acc).2=0->(uv l i acc).1=0:=by
    intro l
    induction l with
    | nil=>intro i acc _;rfl
    | cons c r ih=>
      intro i acc h
      simp only [uv] at h ⊢
      split at h
      · rw [if_pos (by assumption)]
      rename_i h1
      rw [if_neg h1]
      split at h
      · rw [if_pos (by assumption)]
      rename_i h2
      rw [if_neg h2]
      split at h
      · rename_i h3
        rw [if_pos h3]
        split at h
        · rw [if_pos (by assumption)]
        · simp at h
      · rename_i h3
        rw [if_neg h3]
        exact ih _ _ h
   rw [this l 0 0 h]
   decide
 · obtain⟨x,r,e1,e2,e3,_,e5,_⟩:=q0k l 0 0 _ _ hl rfl h
   rw [e2,e3]
   refine⟨?_,by simpa using e5⟩
   conv=>rhs;rw [e1]
   rw [zny]
   omega
theorem qbf (B n c:Nat) (A:Option Addr) (l:List Nat) (w:World) (hl:qbm w B A n l) (h256:∀x∈l,x<256) (hB:B<=w.heap.size) (hn:n<=1000000):
 C9 203 #[.slice A n c] w (Ret w (decV n l)):=by
 have hU:=qmv B n c A l w hl h256 hB hn;obtain⟨hle,hlt⟩:=q30 h256
 have hD:decV n l=if (uv l 0 0).2=0 then .tuple #[.int .i64 0,.int .i64 0,.bool false] else .tuple #[.int .i64 (qld (uv l 0 0).1),.int .i64 ((uv l 0 0).2:Nat),.bool true]:=by
  unfold decV dec
  by_cases h:(uv l 0 0).2=0
  · rw [if_pos h,if_pos h]
  · rw [if_neg h,if_neg h]
    simp only [List.length_drop,hl.1]
    rw [show n-(n-(uv l 0 0).2)=(uv l 0 0).2 by rw [hl.1] at hle;omega]
 rw [hD]
 generalize (uv l 0 0).1=v at*;generalize (uv l 0 0).2=k at*;clear hD hl h256
 by_cases hk:k=0
 · subst hk
   go_enter Tryz.func203,Tryz.ntmps203
   go_wp2_with (go_at_call 212;refine hU.mono ?_;rintro e w1 ⟨rfl,hb1⟩)
   exact bodyPost_ret (v:=.tuple #[.int .i64 0,.int .i64 0,.bool false]) (by simp [results,Tryz.results203,go_sem]) rfl ⟨rfl,bel⟩
 · rw [if_neg hk]
   by_cases ho:v%2=1
   · have e:qld v= -((v:Int)/2)-1:=by unfold qld;rw [if_pos ho];omega
     have ho2:(v:Int)%2=1:=oQ
     rw [e]
     go_enter Tryz.func203,Tryz.ntmps203
     go_wp2_with (go_at_call 212;refine hU.mono ?_;rintro e w1 ⟨rfl,hb1⟩)
     exact bodyPost_ret (v:=.tuple #[.int .i64 (-((v:Int)/2)-1),.int .i64 (k:Int),.bool true]) (by simp [results,Tryz.results203,go_sem]) rfl ⟨rfl,bel⟩
   · have e:qld v=(v:Int)/2:=by unfold qld;rw [if_neg ho];omega
     have ho2:¬ (v:Int)%2=1:=oQ
     rw [e]
     go_enter Tryz.func203,Tryz.ntmps203
     go_wp2_with (go_at_call 212;refine hU.mono ?_;rintro e w1 ⟨rfl,hb1⟩)
     exact bodyPost_ret (v:=.tuple #[.int .i64 ((v:Int)/2),.int .i64 (k:Int),.bool true]) (by simp [results,Tryz.results203,go_sem]) rfl ⟨rfl,bel⟩
end Go.Proofs.YtfnhnjbkkggbeaaGreat

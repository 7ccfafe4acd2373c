/-The contract of the reference's Unkey: the same box.-/
import Derived.Test.YtfnhnjbkkggbeaaGreatHEncK
import Derived.Laws.BytesArg
set_option linter.unusedVariables false
set_option linter.unusedSimpArgs false
set_option maxHeartbeats 16000000
set_option maxRecDepth 20000
namespace Go.Proofs.YtfnhnjbkkggbeaaGreat
open Go.RowKit Pg
def bstr (l:List Nat):ByteArray:=strOfNums (l.map fun c:Nat=>(c:Int))
theorem q3r {l m:List Nat} (hl:∀c∈l,c<256) (hm:∀c∈m,c<256) (h:bstr l=bstr m):l=m:=by
 unfold bstr strOfNums at h
 have h2:((l.map fun c:Nat=>(c:Int)).map fun n=>UInt8.ofNat n.toNat)=((m.map fun c:Nat=>(c:Int)).map fun n=>UInt8.ofNat n.toNat):=by
  have:=congrArg (fun b:ByteArray=>b.data.toList) h
  simpa using this
 rw [List.map_map,List.map_map] at h2;have h3:=congrArg (fun z=>z.map UInt8.toNat) h2
 simp only [List.map_map] at h3
 have e:∀(l:List Nat),(∀c∈l,c<256)->l.map (UInt8.toNat ∘ ((fun n:Int=>UInt8.ofNat n.toNat)∘ fun c:Nat=>(c:Int)))=l:=fun l hl=>by
  conv=>rhs;rw [<-List.map_id l]
  refine List.map_congr_left fun c hc=> ?_
  have:=hl c hc
  simp only [Function.comp,Int.toNat_natCast,id]
  rw [UInt8.toNat_ofNat']
  omega
 rw [e l hl,e m hm] at h3;exact h3
theorem toList_inj {a b:ByteArray} (e:a.toList=b.toList):a=b:=by
 rw [ByteArray.toList_eq,ByteArray.toList_eq] at e;have h:a.data=b.data:=Array.ext' e
 cases a
 cases b
 simp_all
theorem qu6 {w:World} {B n c b off:Nat} {l:List Nat} (h:qbs w B (some ⟨b,off,none⟩) n l) (hn:0<n):
 (convert 94 9 (.slice (some ⟨b,off,none⟩) n c)).run Tryz.prog w=.ok (.string (bstr l)) w:=by
 have hc2:∀i,i<n->w.cell? ⟨b,off+i,none⟩=some (.int .u8 ((l.map fun c:Nat=>(c:Int)).getD i 0)):=by
  intro i hi;obtain⟨b',off',e,_,hc⟩:=h.2 hn;injection e with e
  injection e with e1 e2
  subst e1 e2;have hl:i<l.length:=by rw [h.1];exact hi
  rw [hc i l[i] (zby hl)]
  simp [zpy,hl]
 have h3:=run_convert_bytes_arg (P:=Tryz.prog) w 94 5 Tryz.underlying94 Tryz.underlying5 b off n c (l.map fun c:Nat=>(c:Int)) (by rw [zyy,h.1]) hc2 9 Tryz.underlying9
 unfold bstr;exact h3
theorem qu5 {w:World} {base n c g:Nat} {e:TypeId} {l:List Nat} (h:w.ownsRow base e 1 (.slice (some ⟨g,0,none⟩) n c) n (qao l)) (hn:0<n):
 (convert 94 9 (.slice (some ⟨g,0,none⟩) n c)).run Tryz.prog w=.ok (.string (bstr l)) w:=by
 obtain⟨A,c',e1,hB,_⟩:=qjz h;have hA:A=some ⟨g,0,none⟩:=(Value.slice.inj e1).1.symm;rw [hA] at hB;exact qu6 hB hn
theorem q40 {l r:List Nat} {a b c d:Int} (hl:∀x∈l,x<256) (h:rdS l 4 a b c d r):l=keyL ⟨⟨a,b⟩,⟨c,d⟩⟩++r/\inBx ⟨⟨a,b⟩,⟨c,d⟩⟩:=by
 obtain⟨l1,l2,l3,h1,h2,h3,h4⟩:=h;obtain⟨i1,e1⟩:=qgh hl h1;have hl1:∀c∈l1,c<256:=fun c hc=>hl c (by rw [e1];simp [hc])
 obtain⟨i2,e2⟩:=qgh hl1 h2;have hl2:∀c∈l2,c<256:=fun c hc=>hl1 c (by rw [e2];simp [hc])
 obtain⟨i3,e3⟩:=qgh hl2 h3;have hl3:∀c∈l3,c<256:=fun c hc=>hl2 c (by rw [e3];simp [hc])
 obtain⟨i4,e4⟩:=qgh hl3 h4;exact⟨by rw [e1,e2,e3,e4];simp [keyL],i1,i2,i3,i4⟩
theorem qew (B n c:Nat) (A:Option Addr) (l:List Nat) (w:World) (hl:qbs w B A n l) (h256:∀x∈l,x<256) (hB:B<=w.heap.size) (hn:n<=1000000) (hnc:n<=c) (hAn:A=none->c=0):
 C9 191 #[.slice A n c] w (Ret w (qef l)):=by
 obtain⟨V,hV⟩:∃V,qef l=V:=⟨_,rfl⟩
 rw [hV]
 have HV:=hdQ hV;clear hV
 go_enter Tryz.func191,Tryz.ntmps191
 go_wp2
 go_loopw [5,6] (fun vs vi wr=>∃(k:Nat) (a b c d:Int) (s:Nat),k<=4/\vi=.int .i64 k/\vs=.int .i64 s/\s<=n/\rdS l k a b c d (l.drop s)/\Blk wr w.heap.size 48 #[.int .i64 0,.int .i64 0,.int .i64 0,.int .i64 0]/\Blk wr (w.heap.size+1) 268 #[.int .i64 a,.int .i64 b,.int .i64 c,.int .i64 d]/\Below w.heap.size w wr) (fun _ vi _=>4-(intOf vi).toNat)
 case atStart=>exact ⟨0,0,0,0,0,0,by omega,rfl,rfl,by omega,rfl,blkA,blkA,bel⟩
 case round=>
  obtain⟨k,x,y,z,u,s,hk,rfl,rfl,hsl,hrd,hBx,hAr,hb⟩:=hrel;have hk5:k=0\/k=1\/k=2\/k=3\/k=4:=oQ
  have hl1:=hBx.lt;have hl2:=hAr.lt;have cB:=hBx.cell;have cA:=hAr.cell;have fB:=hBx.frozen;have fA:=hAr.frozen;have hBw:B<=wr.heap.size:=oQ
  rcases hk5 with rfl|rfl|rfl|rfl|rfl
  · -- number 0
    cases hd:dec (l.drop s) with
    | none=>
      have eV:V=.tuple #[bxV 0 0 0 0,.bool false]:=by rw [<-HV.out,qef,qki oQ hrd hd]
      subst eV
      by_cases hs:s=n
      · subst hs
        have HU:Hid (∀A' c' w',Below wr.heap.size wr w' ->C9 203 #[.slice A' 0 c'] w' (Ret w' (.tuple #[.int .i64 0,.int .i64 0,.bool false]))):=fun A' c' w' h=>by
         have h2:=qbg 0 0 c' A' [] w' ⟨rfl,fun h=>by omega⟩ (fun x hx=>by cases hx) (zly _) oQ
         exact h2
        clear hrd hd
        go_wp2_with (go_at_call 203;(with_reducible refine(HU.out _ _ _ ?_).mono ?_);exact bel;rintro e w1 ⟨rfl,hb1⟩;obtain⟨hc1,hf1,hz1⟩:=bc3 hb1;(try simp at hz1);obtain⟨hy1,hy2⟩:=ol2 w w1)
        all_goals
         refine qc0 (R:=fun w2=>Blk w2 (w.heap.size) 48 #[.int .i64 0,.int .i64 0,.int .i64 0,.int .i64 0]/\Below w.heap.size w w2) ⟨?_,bel⟩ ?_
         · exact(qd1 (x:=.int .i64 0) (y:=.int .i64 0) (z:=.int .i64 0) (u:=.int .i64 0) blkA)
         rintro w2 ⟨HR,hbR⟩;obtain⟨r0,r1,r2,r3⟩:=ce4 HR;exact bodyPost_ret (v:=.tuple #[bxV 0 0 0 0,.bool false]) (by simp [results,Tryz.results191,go_sem,r0,r1,r2,r3]) rfl ⟨rfl,hbR⟩
      · have hsn:s<n:=oQ
        obtain⟨b',off',rfl,hb',_⟩:=hl.2 oQ
        have hcs:¬ c=s:=oQ
        have HU:Hid (∀w',Below wr.heap.size wr w' ->C9 203 #[.slice (some ⟨b',off' +s,none⟩) (n-s) (c-s)] w' (Ret w' (.tuple #[.int .i64 0,.int .i64 0,.bool false]))):=fun w' h=>by
         have h2:=qbg B (n-s) (c-s) _ (l.drop s) w' (((hl.from_ hsl).tr hb hB).tr h hBw) (fun x hx=>h256 x (List.mem_of_mem_drop hx)) (zcy hBw h.size) oQ
         rw [decV,hd] at h2;exact h2
        clear hrd hd
        go_wp2_with (go_at_call 203;(with_reducible refine(HU.out _ ?_).mono ?_);exact bel;rintro e w1 ⟨rfl,hb1⟩;obtain⟨hc1,hf1,hz1⟩:=bc3 hb1;(try simp at hz1);obtain⟨hy1,hy2⟩:=ol2 w w1)
        refine qc0 (R:=fun w2=>Blk w2 (w.heap.size) 48 #[.int .i64 0,.int .i64 0,.int .i64 0,.int .i64 0]/\Below w.heap.size w w2) ⟨?_,bel⟩ ?_
        · exact(qd1 (x:=.int .i64 0) (y:=.int .i64 0) (z:=.int .i64 0) (u:=.int .i64 0) blkA)
        rintro w2 ⟨HR,hbR⟩;obtain⟨r0,r1,r2,r3⟩:=ce4 HR;exact bodyPost_ret (v:=.tuple #[bxV 0 0 0 0,.bool false]) (by simp [results,Tryz.results191,go_sem,r0,r1,r2,r3]) rfl ⟨rfl,hbR⟩
    | some p=>
      obtain⟨v,r2⟩:=p;have hr256:∀x∈l.drop s,x<256:=fun x hx=>h256 x (List.mem_of_mem_drop hx)
      obtain⟨hb2,hlt2,hdr2,hv2⟩:=qkq hr256 hd;have hln:(l.drop s).length=n-s:=by rw [List.length_drop,hl.1]
      have hsn:s<n:=oQ
      obtain⟨b',off',rfl,hb',_⟩:=hl.2 oQ
      have hcs:¬ c=s:=oQ
      have HU:Hid (∀w',Below wr.heap.size wr w' ->C9 203 #[.slice (some ⟨b',off' +s,none⟩) (n-s) (c-s)] w' (Ret w' (.tuple #[.int .i64 v,.int .i64 ((n-s-r2.length:Nat):Int),.bool true]))):=fun w' h=>by
       have h2:=qbg B (n-s) (c-s) _ (l.drop s) w' (((hl.from_ hsl).tr hb hB).tr h hBw) hr256 (zcy hBw h.size) oQ
       rw [decV,hd] at h2;exact h2
      obtain⟨q,hq⟩:∃q,n-s-r2.length=q:=⟨_,rfl⟩;rw [hq] at HU
      have hr2:r2=l.drop (s+q):=by
       rw [hdr2,hln,List.drop_drop,hq]
      have hq2:s+q<=n:=oQ
      have hN:rdS l 1 v y z u r2:=by simp only [rdS] at hrd;rw [hrd] at hd;exact hd
      rw [hr2] at hN;have HN:=hdQ hN;clear hrd hd hr256 hb2 hlt2 hdr2 hv2 hq hr2 hN hln
      go_wp2_with (go_at_call 203;(with_reducible refine(HU.out _ ?_).mono ?_);exact bel;rintro e w1 ⟨rfl,hb1⟩;obtain⟨hc1,hf1,hz1⟩:=bc3 hb1;(try simp at hz1);obtain⟨hy1,hy2⟩:=ol2 w w1)
      have hBx1:=hBx.tr hb1;have hAr1:=(hAr.tr hb1).set_ 0 (.int .i64 v)
      go_roundw
      case rel=>exact ⟨1,v,y,z,u,s+q,by omega,by go_num,by go_num,by omega,HN.out,hBx1.far (p:=⟨w.heap.size+1,0,none⟩) sI _,hAr1.eq_ sI,bel⟩
      case measure=>simp [intOf]
  · -- number 1
    cases hd:dec (l.drop s) with
    | none=>
      have eV:V=.tuple #[bxV 0 0 0 0,.bool false]:=by rw [<-HV.out,qef,qki oQ hrd hd]
      subst eV
      by_cases hs:s=n
      · subst hs
        have HU:Hid (∀A' c' w',Below wr.heap.size wr w' ->C9 203 #[.slice A' 0 c'] w' (Ret w' (.tuple #[.int .i64 0,.int .i64 0,.bool false]))):=fun A' c' w' h=>by
         have h2:=qbg 0 0 c' A' [] w' ⟨rfl,fun h=>by omega⟩ (fun x hx=>by cases hx) (zly _) oQ
         exact h2
        clear hrd hd
        go_wp2_with (go_at_call 203;(with_reducible refine(HU.out _ _ _ ?_).mono ?_);exact bel;rintro e w1 ⟨rfl,hb1⟩;obtain⟨hc1,hf1,hz1⟩:=bc3 hb1;(try simp at hz1);obtain⟨hy1,hy2⟩:=ol2 w w1)
        all_goals
         refine qc0 (R:=fun w2=>Blk w2 (w.heap.size) 48 #[.int .i64 0,.int .i64 0,.int .i64 0,.int .i64 0]/\Below w.heap.size w w2) ⟨?_,bel⟩ ?_
         · exact(qd1 (x:=.int .i64 0) (y:=.int .i64 0) (z:=.int .i64 0) (u:=.int .i64 0) blkA)
         rintro w2 ⟨HR,hbR⟩;obtain⟨r0,r1,r2,r3⟩:=ce4 HR;exact bodyPost_ret (v:=.tuple #[bxV 0 0 0 0,.bool false]) (by simp [results,Tryz.results191,go_sem,r0,r1,r2,r3]) rfl ⟨rfl,hbR⟩
      · have hsn:s<n:=oQ
        obtain⟨b',off',rfl,hb',_⟩:=hl.2 oQ
        have hcs:¬ c=s:=oQ
        have HU:Hid (∀w',Below wr.heap.size wr w' ->C9 203 #[.slice (some ⟨b',off' +s,none⟩) (n-s) (c-s)] w' (Ret w' (.tuple #[.int .i64 0,.int .i64 0,.bool false]))):=fun w' h=>by
         have h2:=qbg B (n-s) (c-s) _ (l.drop s) w' (((hl.from_ hsl).tr hb hB).tr h hBw) (fun x hx=>h256 x (List.mem_of_mem_drop hx)) (zcy hBw h.size) oQ
         rw [decV,hd] at h2;exact h2
        clear hrd hd
        go_wp2_with (go_at_call 203;(with_reducible refine(HU.out _ ?_).mono ?_);exact bel;rintro e w1 ⟨rfl,hb1⟩;obtain⟨hc1,hf1,hz1⟩:=bc3 hb1;(try simp at hz1);obtain⟨hy1,hy2⟩:=ol2 w w1)
        refine qc0 (R:=fun w2=>Blk w2 (w.heap.size) 48 #[.int .i64 0,.int .i64 0,.int .i64 0,.int .i64 0]/\Below w.heap.size w w2) ⟨?_,bel⟩ ?_
        · exact(qd1 (x:=.int .i64 0) (y:=.int .i64 0) (z:=.int .i64 0) (u:=.int .i64 0) blkA)
        rintro w2 ⟨HR,hbR⟩;obtain⟨r0,r1,r2,r3⟩:=ce4 HR;exact bodyPost_ret (v:=.tuple #[bxV 0 0 0 0,.bool false]) (by simp [results,Tryz.results191,go_sem,r0,r1,r2,r3]) rfl ⟨rfl,hbR⟩
    | some p=>
      obtain⟨v,r2⟩:=p;have hr256:∀x∈l.drop s,x<256:=fun x hx=>h256 x (List.mem_of_mem_drop hx)
      obtain⟨hb2,hlt2,hdr2,hv2⟩:=qkq hr256 hd;have hln:(l.drop s).length=n-s:=by rw [List.length_drop,hl.1]
      have hsn:s<n:=oQ
      obtain⟨b',off',rfl,hb',_⟩:=hl.2 oQ
      have hcs:¬ c=s:=oQ
      have HU:Hid (∀w',Below wr.heap.size wr w' ->C9 203 #[.slice (some ⟨b',off' +s,none⟩) (n-s) (c-s)] w' (Ret w' (.tuple #[.int .i64 v,.int .i64 ((n-s-r2.length:Nat):Int),.bool true]))):=fun w' h=>by
       have h2:=qbg B (n-s) (c-s) _ (l.drop s) w' (((hl.from_ hsl).tr hb hB).tr h hBw) hr256 (zcy hBw h.size) oQ
       rw [decV,hd] at h2;exact h2
      obtain⟨q,hq⟩:∃q,n-s-r2.length=q:=⟨_,rfl⟩;rw [hq] at HU
      have hr2:r2=l.drop (s+q):=by
       rw [hdr2,hln,List.drop_drop,hq]
      have hq2:s+q<=n:=oQ
      have hN:rdS l 2 x v z u r2:=⟨_,hrd,hd⟩;rw [hr2] at hN;have HN:=hdQ hN;clear hrd hd hr256 hb2 hlt2 hdr2 hv2 hq hr2 hN hln
      go_wp2_with (go_at_call 203;(with_reducible refine(HU.out _ ?_).mono ?_);exact bel;rintro e w1 ⟨rfl,hb1⟩;obtain⟨hc1,hf1,hz1⟩:=bc3 hb1;(try simp at hz1);obtain⟨hy1,hy2⟩:=ol2 w w1)
      have hBx1:=hBx.tr hb1;have hAr1:=(hAr.tr hb1).set_ 1 (.int .i64 v)
      go_roundw
      case rel=>exact ⟨2,x,v,z,u,s+q,by omega,by go_num,by go_num,by omega,HN.out,hBx1.far (p:=⟨w.heap.size+1,1,none⟩) sI _,hAr1.eq_ sI,bel⟩
      case measure=>simp [intOf]
  · -- number 2
    cases hd:dec (l.drop s) with
    | none=>
      have eV:V=.tuple #[bxV 0 0 0 0,.bool false]:=by rw [<-HV.out,qef,qki oQ hrd hd]
      subst eV
      by_cases hs:s=n
      · subst hs
        have HU:Hid (∀A' c' w',Below wr.heap.size wr w' ->C9 203 #[.slice A' 0 c'] w' (Ret w' (.tuple #[.int .i64 0,.int .i64 0,.bool false]))):=fun A' c' w' h=>by
         have h2:=qbg 0 0 c' A' [] w' ⟨rfl,fun h=>by omega⟩ (fun x hx=>by cases hx) (zly _) oQ
         exact h2
        clear hrd hd
        go_wp2_with (go_at_call 203;(with_reducible refine(HU.out _ _ _ ?_).mono ?_);exact bel;rintro e w1 ⟨rfl,hb1⟩;obtain⟨hc1,hf1,hz1⟩:=bc3 hb1;(try simp at hz1);obtain⟨hy1,hy2⟩:=ol2 w w1)
        all_goals
         refine qc0 (R:=fun w2=>Blk w2 (w.heap.size) 48 #[.int .i64 0,.int .i64 0,.int .i64 0,.int .i64 0]/\Below w.heap.size w w2) ⟨?_,bel⟩ ?_
         · exact(qd1 (x:=.int .i64 0) (y:=.int .i64 0) (z:=.int .i64 0) (u:=.int .i64 0) blkA)
         rintro w2 ⟨HR,hbR⟩;obtain⟨r0,r1,r2,r3⟩:=ce4 HR;exact bodyPost_ret (v:=.tuple #[bxV 0 0 0 0,.bool false]) (by simp [results,Tryz.results191,go_sem,r0,r1,r2,r3]) rfl ⟨rfl,hbR⟩
      · have hsn:s<n:=oQ
        obtain⟨b',off',rfl,hb',_⟩:=hl.2 oQ
        have hcs:¬ c=s:=oQ
        have HU:Hid (∀w',Below wr.heap.size wr w' ->C9 203 #[.slice (some ⟨b',off' +s,none⟩) (n-s) (c-s)] w' (Ret w' (.tuple #[.int .i64 0,.int .i64 0,.bool false]))):=fun w' h=>by
         have h2:=qbg B (n-s) (c-s) _ (l.drop s) w' (((hl.from_ hsl).tr hb hB).tr h hBw) (fun x hx=>h256 x (List.mem_of_mem_drop hx)) (zcy hBw h.size) oQ
         rw [decV,hd] at h2;exact h2
        clear hrd hd
        go_wp2_with (go_at_call 203;(with_reducible refine(HU.out _ ?_).mono ?_);exact bel;rintro e w1 ⟨rfl,hb1⟩;obtain⟨hc1,hf1,hz1⟩:=bc3 hb1;(try simp at hz1);obtain⟨hy1,hy2⟩:=ol2 w w1)
        refine qc0 (R:=fun w2=>Blk w2 (w.heap.size) 48 #[.int .i64 0,.int .i64 0,.int .i64 0,.int .i64 0]/\Below w.heap.size w w2) ⟨?_,bel⟩ ?_
        · exact(qd1 (x:=.int .i64 0) (y:=.int .i64 0) (z:=.int .i64 0) (u:=.int .i64 0) blkA)
        rintro w2 ⟨HR,hbR⟩;obtain⟨r0,r1,r2,r3⟩:=ce4 HR;exact bodyPost_ret (v:=.tuple #[bxV 0 0 0 0,.bool false]) (by simp [results,Tryz.results191,go_sem,r0,r1,r2,r3]) rfl ⟨rfl,hbR⟩
    | some p=>
      obtain⟨v,r2⟩:=p;have hr256:∀x∈l.drop s,x<256:=fun x hx=>h256 x (List.mem_of_mem_drop hx)
      obtain⟨hb2,hlt2,hdr2,hv2⟩:=qkq hr256 hd;have hln:(l.drop s).length=n-s:=by rw [List.length_drop,hl.1]
      have hsn:s<n:=oQ
      obtain⟨b',off',rfl,hb',_⟩:=hl.2 oQ
      have hcs:¬ c=s:=oQ
      have HU:Hid (∀w',Below wr.heap.size wr w' ->C9 203 #[.slice (some ⟨b',off' +s,none⟩) (n-s) (c-s)] w' (Ret w' (.tuple #[.int .i64 v,.int .i64 ((n-s-r2.length:Nat):Int),.bool true]))):=fun w' h=>by
       have h2:=qbg B (n-s) (c-s) _ (l.drop s) w' (((hl.from_ hsl).tr hb hB).tr h hBw) hr256 (zcy hBw h.size) oQ
       rw [decV,hd] at h2;exact h2
      obtain⟨q,hq⟩:∃q,n-s-r2.length=q:=⟨_,rfl⟩;rw [hq] at HU
      have hr2:r2=l.drop (s+q):=by
       rw [hdr2,hln,List.drop_drop,hq]
      have hq2:s+q<=n:=oQ
      have hN:rdS l 3 x y v u r2:=(by obtain⟨l1,h1,h2⟩:=hrd;exact⟨l1,_,h1,h2,hd⟩)
      rw [hr2] at hN;have HN:=hdQ hN;clear hrd hd hr256 hb2 hlt2 hdr2 hv2 hq hr2 hN hln
      go_wp2_with (go_at_call 203;(with_reducible refine(HU.out _ ?_).mono ?_);exact bel;rintro e w1 ⟨rfl,hb1⟩;obtain⟨hc1,hf1,hz1⟩:=bc3 hb1;(try simp at hz1);obtain⟨hy1,hy2⟩:=ol2 w w1)
      have hBx1:=hBx.tr hb1;have hAr1:=(hAr.tr hb1).set_ 2 (.int .i64 v)
      go_roundw
      case rel=>exact ⟨3,x,y,v,u,s+q,by omega,by go_num,by go_num,by omega,HN.out,hBx1.far (p:=⟨w.heap.size+1,2,none⟩) sI _,hAr1.eq_ sI,bel⟩
      case measure=>simp [intOf]
  · -- number 3
    cases hd:dec (l.drop s) with
    | none=>
      have eV:V=.tuple #[bxV 0 0 0 0,.bool false]:=by rw [<-HV.out,qef,qki oQ hrd hd]
      subst eV
      by_cases hs:s=n
      · subst hs
        have HU:Hid (∀A' c' w',Below wr.heap.size wr w' ->C9 203 #[.slice A' 0 c'] w' (Ret w' (.tuple #[.int .i64 0,.int .i64 0,.bool false]))):=fun A' c' w' h=>by
         have h2:=qbg 0 0 c' A' [] w' ⟨rfl,fun h=>by omega⟩ (fun x hx=>by cases hx) (zly _) oQ
         exact h2
        clear hrd hd
        go_wp2_with (go_at_call 203;(with_reducible refine(HU.out _ _ _ ?_).mono ?_);exact bel;rintro e w1 ⟨rfl,hb1⟩;obtain⟨hc1,hf1,hz1⟩:=bc3 hb1;(try simp at hz1);obtain⟨hy1,hy2⟩:=ol2 w w1)
        all_goals
         refine qc0 (R:=fun w2=>Blk w2 (w.heap.size) 48 #[.int .i64 0,.int .i64 0,.int .i64 0,.int .i64 0]/\Below w.heap.size w w2) ⟨?_,bel⟩ ?_
         · exact(qd1 (x:=.int .i64 0) (y:=.int .i64 0) (z:=.int .i64 0) (u:=.int .i64 0) blkA)
         rintro w2 ⟨HR,hbR⟩;obtain⟨r0,r1,r2,r3⟩:=ce4 HR;exact bodyPost_ret (v:=.tuple #[bxV 0 0 0 0,.bool false]) (by simp [results,Tryz.results191,go_sem,r0,r1,r2,r3]) rfl ⟨rfl,hbR⟩
      · have hsn:s<n:=oQ
        obtain⟨b',off',rfl,hb',_⟩:=hl.2 oQ
        have hcs:¬ c=s:=oQ
        have HU:Hid (∀w',Below wr.heap.size wr w' ->C9 203 #[.slice (some ⟨b',off' +s,none⟩) (n-s) (c-s)] w' (Ret w' (.tuple #[.int .i64 0,.int .i64 0,.bool false]))):=fun w' h=>by
         have h2:=qbg B (n-s) (c-s) _ (l.drop s) w' (((hl.from_ hsl).tr hb hB).tr h hBw) (fun x hx=>h256 x (List.mem_of_mem_drop hx)) (zcy hBw h.size) oQ
         rw [decV,hd] at h2;exact h2
        clear hrd hd
        go_wp2_with (go_at_call 203;(with_reducible refine(HU.out _ ?_).mono ?_);exact bel;rintro e w1 ⟨rfl,hb1⟩;obtain⟨hc1,hf1,hz1⟩:=bc3 hb1;(try simp at hz1);obtain⟨hy1,hy2⟩:=ol2 w w1)
        refine qc0 (R:=fun w2=>Blk w2 (w.heap.size) 48 #[.int .i64 0,.int .i64 0,.int .i64 0,.int .i64 0]/\Below w.heap.size w w2) ⟨?_,bel⟩ ?_
        · exact(qd1 (x:=.int .i64 0) (y:=.int .i64 0) (z:=.int .i64 0) (u:=.int .i64 0) blkA)
        rintro w2 ⟨HR,hbR⟩;obtain⟨r0,r1,r2,r3⟩:=ce4 HR;exact bodyPost_ret (v:=.tuple #[bxV 0 0 0 0,.bool false]) (by simp [results,Tryz.results191,go_sem,r0,r1,r2,r3]) rfl ⟨rfl,hbR⟩
    | some p=>
      obtain⟨v,r2⟩:=p;have hr256:∀x∈l.drop s,x<256:=fun x hx=>h256 x (List.mem_of_mem_drop hx)
      obtain⟨hb2,hlt2,hdr2,hv2⟩:=qkq hr256 hd;have hln:(l.drop s).length=n-s:=by rw [List.length_drop,hl.1]
      have hsn:s<n:=oQ
      obtain⟨b',off',rfl,hb',_⟩:=hl.2 oQ
      have hcs:¬ c=s:=oQ
      have HU:Hid (∀w',Below wr.heap.size wr w' ->C9 203 #[.slice (some ⟨b',off' +s,none⟩) (n-s) (c-s)] w' (Ret w' (.tuple #[.int .i64 v,.int .i64 ((n-s-r2.length:Nat):Int),.bool true]))):=fun w' h=>by
       have h2:=qbg B (n-s) (c-s) _ (l.drop s) w' (((hl.from_ hsl).tr hb hB).tr h hBw) hr256 (zcy hBw h.size) oQ
       rw [decV,hd] at h2;exact h2
      obtain⟨q,hq⟩:∃q,n-s-r2.length=q:=⟨_,rfl⟩;rw [hq] at HU
      have hr2:r2=l.drop (s+q):=by
       rw [hdr2,hln,List.drop_drop,hq]
      have hq2:s+q<=n:=oQ
      have hN:rdS l 4 x y z v r2:=(by obtain⟨l1,l2,h1,h2,h3⟩:=hrd;exact⟨l1,l2,_,h1,h2,h3,hd⟩)
      rw [hr2] at hN;have HN:=hdQ hN;clear hrd hd hr256 hb2 hlt2 hdr2 hv2 hq hr2 hN hln
      go_wp2_with (go_at_call 203;(with_reducible refine(HU.out _ ?_).mono ?_);exact bel;rintro e w1 ⟨rfl,hb1⟩;obtain⟨hc1,hf1,hz1⟩:=bc3 hb1;(try simp at hz1);obtain⟨hy1,hy2⟩:=ol2 w w1)
      have hBx1:=hBx.tr hb1;have hAr1:=(hAr.tr hb1).set_ 3 (.int .i64 v)
      go_roundw
      case rel=>exact ⟨4,x,y,z,v,s+q,by omega,by go_num,by go_num,by omega,HN.out,hBx1.far (p:=⟨w.heap.size+1,3,none⟩) sI _,hAr1.eq_ sI,bel⟩
      case measure=>simp [intOf]
  · -- all four
    have hE:=q41 hrd;obtain⟨hkl,hin⟩:=q40 h256 hrd;have hk4:=(qi4 hin).1;have hn0:0<n:=by rw [<-hl.1,hkl,zny];omega
    obtain⟨b',off',rfl,hb',_⟩:=hl.2 hn0;obtain⟨ck,hck⟩:∃m:Nat,qa4 ⟨⟨x,y⟩,⟨z,u⟩⟩=m:=⟨_,rfl⟩
    have HK:Hid (∀w',C9 204 #[bxV x y z u] w' (Ret w' (.int .i64 (ck:Int)))):=fun w' =>by
     have h:=qbh x y z u w';rw [hck] at h;exact h
    have hck0:ck=0\/∃m,ck=m+1:=by cases ck<;>simp
    have HCv:∀w',Below wr.heap.size wr w' ->(convert 94 9 (.slice (some ⟨b',off',none⟩) n c)).run Tryz.prog w' =.ok (.string (bstr l)) w' :=fun w' h=>qu6 ((hl.tr hb hB).tr h hBw) hn0
    by_cases hz:ck=0
    case neg=>
     have hzi:((ck:Int) !=0)=true:=by rw [bne_iff_ne];omega
     have eV:V=.tuple #[bxV 0 0 0 0,.bool false]:=by rw [<-HV.out,qef,hE,if_neg (fun h=>by have h2:=h.2;simp [okBx,hck] at h2;exact hz h2)]
     subst eV;clear hE hrd hck hck0 hkl hin hz HCv;go_wp2_with fail;refine qkw (fun w2=>(Below w.heap.size w w2/\Below wr.heap.size wr w2)/\Blk w2 w.heap.size 48 #[.int .i64 0,.int .i64 0,.int .i64 0,.int .i64 0]/\Blk w2 wr.heap.size 48 #[.int .i64 x,.int .i64 y,.int .i64 z,.int .i64 u]) ⟨⟨bel,bel⟩,blkA,blkA⟩ ?_
     clear hBx hAr hl1 hl2 cB cA fB fA hb;rintro w3 ⟨⟨hb3,hbr3⟩,hX,hY⟩;have cX:=hX.cell;have cY:=hY.cell;have fX:=hX.frozen;have lX:=hX.lt;have lY:=hY.lt;have hbs3:=hbr3.size;refine qek [0,1,2,3,4,7,8,5] [6,9,10] kr kr pq ?_
     simp only [zdy,zey,ldz,lds,bare,qaj,lcz,lcs,zay]
     repeat' ((try simp only [Act.put,lsi,lsz,lss]);first|(refine qbo ?_ ?_;focus(simp only [lAq,zgy,zfy];done))|(refine qa8 ?_ ?_ ?_;(focus(simp only [lAq,zgy,zfy];done));(focus(exact bel)))|(refine qax (X:= ?_) ?_ ?_ (fun hg=> ?_) (fun hg=> ?_);rotate_left;(focus(simp only [lAq];with_reducible rfl));(focus(exact bel));all_goals(try simp only [zgy,zfy] at hg))|(refine lqx ?_)|(refine qab qaa rfl (fun K hK=> ?_);go_simp;((first |  (go_at_call 204;(with_reducible refine(HK.out _).mono ?_);rintro e w1 ⟨rfl,hb1⟩;have hb1' :Below w3.heap.size w3 w1:=bel;obtain⟨hc1,hf1⟩:=qbb hb1';have hz1:=hb1.size;(try simp at hz1);have hy1:w.heap.size<w1.heap.size:=oQ;have hy2:wr.heap.size<w1.heap.size:=oQ)|skip)<;>(refine hK.out _ _ bel ?_;clear hK K))))
     (all_goals try simp only [Act.put,lsi,lsz,lss]);all_goals(refine qad ?_)
     unfold two
     simp only [zdy,zey,ldz,lds,bare,qaj,lcz,lcs,zay]
     repeat' ((try simp only [Act.put,lsi,lsz,lss]);first|(refine qba (v:= ?_) qaa rfl ?_ ?_;rotate_left;focus(intro wq hq;subst hq;go_simp;try with_reducible rfl))|(refine qbo ?_ ?_;focus(simp only [lAq,zgy,zfy];done))|(refine qa8 ?_ rfl ?_;focus(simp only [lAq,zgy,zfy];done)))
     (all_goals try simp only [Act.put,lsi,lsz,lss]);all_goals(refine qad ?_)
     go_wp2;refine qc0 (R:=fun w2=>Blk w2 (w.heap.size) 48 #[.int .i64 0,.int .i64 0,.int .i64 0,.int .i64 0]/\Below w.heap.size w w2) ⟨?_,bel⟩ ?_
     · exact qd1 (x:=.int .i64 0) (y:=.int .i64 0) (z:=.int .i64 0) (u:=.int .i64 0) blkA
     rintro w2 ⟨HR,hbR⟩;obtain⟨r0,r1,r2,r3⟩:=ce4 HR;exact bodyPost_ret (v:=.tuple #[bxV 0 0 0 0,.bool false]) (by simp [results,Tryz.results191,go_sem,r0,r1,r2,r3]) rfl ⟨rfl,hbR⟩
    subst hz;have hok:okBx ⟨⟨x,y⟩,⟨z,u⟩⟩=true:=by simp [okBx,hck]
    obtain⟨K,hK⟩:∃K,keyL ⟨⟨x,y⟩,⟨z,u⟩⟩=K:=⟨_,rfl⟩;have hKb:∀c∈K,c<256:=by rw [<-hK];exact fun c hc=>qi5 hc
    have HKy:Hid (∀w',C9 186 #[bxV x y z u] w' (RetB w' K)):=fun w' =>by
     have h:=qoa x y z u hin w';rw [hK] at h;exact h
    rw [hK] at hkl hk4;have hKl:1<=K.length:=oQ
    by_cases hr:l.drop s= []
    · have eV:V=.tuple #[bxV x y z u,.bool true]:=by rw [<-HV.out,qef,hE,if_pos ⟨hr,hok⟩]
      subst eV;have hlK:bstr l=bstr K:=by rw [hr,List.append_nil] at hkl;rw [hkl]
      rw [hlK] at HCv;obtain⟨S,hS⟩:∃S,bstr K=S:=⟨_,rfl⟩;have HS:=hdQ hS;rw [hS] at HCv;clear hE hrd hck hck0 hkl hin hr hok hlK hK hS hKb hk4 hl h256;go_wp2_with fail;refine qkw (fun w2=>(Below w.heap.size w w2/\Below wr.heap.size wr w2)/\Blk w2 w.heap.size 48 #[.int .i64 0,.int .i64 0,.int .i64 0,.int .i64 0]/\Blk w2 wr.heap.size 48 #[.int .i64 x,.int .i64 y,.int .i64 z,.int .i64 u]) ⟨⟨bel,bel⟩,blkA,blkA⟩ ?_
      clear hBx hAr hl1 hl2 cB cA fB fA hb;rintro w3 ⟨⟨hb3,hbr3⟩,hX,hY⟩;have cX:=hX.cell;have cY:=hY.cell;have fX:=hX.frozen;have lX:=hX.lt;have lY:=hY.lt;have hbs3:=hbr3.size;have HCv3:∀w',Below w3.heap.size w3 w' ->(convert 94 9 (.slice (some ⟨b',off',none⟩) n c)).run Tryz.prog w' =.ok (.string S) w' :=fun w' h=>HCv w' (hbr3.trans (h.mono hbs3))
      refine qek [0,1,2,3,4,7,8,5] [6,9,10] kr kr pq ?_
      simp only [zdy,zey,ldz,lds,bare,qaj,lcz,lcs,zay]
      repeat' ((try simp only [Act.put,lsi,lsz,lss]);first|(refine qbo ?_ ?_;focus(simp only [lAq,zgy,zfy];done))|(refine qa8 ?_ ?_ ?_;(focus(simp only [lAq,zgy,zfy];done));(focus(exact bel)))|(refine qax (X:= ?_) ?_ ?_ (fun hg=> ?_) (fun hg=> ?_);rotate_left;(focus(simp only [lAq];with_reducible rfl));(focus(exact bel));all_goals(try simp only [zgy,zfy] at hg))|(refine lqx ?_)|(refine qab qaa rfl (fun K hK=> ?_);go_simp;((first |  (go_at_call 204;(with_reducible refine(HK.out _).mono ?_);rintro e w1 ⟨rfl,hb1⟩;have hb1' :Below w3.heap.size w3 w1:=bel;obtain⟨hc1,hf1⟩:=qbb hb1';have hz1:=hb1.size;(try simp at hz1);have hy1:w.heap.size<w1.heap.size:=oQ;have hy2:wr.heap.size<w1.heap.size:=oQ)|(go_at_call 186;(with_reducible refine(HKy.out _).mono ?_);rintro e w5 ⟨s5,rfl,ho5,hb5⟩;obtain⟨g5,c5,rfl,hnw5,hl5,hg5⟩:=qll ho5 oQ;have HCk:=qu5 ho5 oQ;rw [HS.out] at HCk;clear hnw5 ho5;obtain⟨hc5,hf5,hz5⟩:=bc3 hb5;(try simp at hz5);have hy5:w.heap.size<w5.heap.size:=oQ;have hy6:wr.heap.size<w5.heap.size:=oQ)|skip)<;>(refine hK.out _ _ bel ?_;clear hK K))))
      (all_goals try simp only [Act.put,lsi,lsz,lss]);all_goals(refine qad ?_)
      unfold two
      simp only [zdy,zey,ldz,lds,bare,qaj,lcz,lcs,zay]
      repeat' ((try simp only [Act.put,lsi,lsz,lss]);first|(refine qba (v:= ?_) qaa rfl ?_ ?_;rotate_left;focus(intro wq hq;subst hq;go_simp;try with_reducible rfl))|(refine qbo ?_ ?_;focus(simp only [lAq,zgy,zfy];done))|(refine qa8 ?_ rfl ?_;focus(simp only [lAq,zgy,zfy];done)))
      (all_goals try simp only [Act.put,lsi,lsz,lss]);all_goals(refine qad ?_)
      go_wp2;refine qc0 (R:=fun w2=>Blk w2 (w.heap.size) 48 #[.int .i64 x,.int .i64 y,.int .i64 z,.int .i64 u]/\Below w.heap.size w w2) ⟨?_,bel⟩ ?_
      · exact qd1 (x:=.int .i64 0) (y:=.int .i64 0) (z:=.int .i64 0) (u:=.int .i64 0) blkA
      rintro w2 ⟨HR,hbR⟩;obtain⟨r0,r1,r2,r3⟩:=ce4 HR;exact bodyPost_ret (v:=.tuple #[bxV x y z u,.bool true]) (by simp [results,Tryz.results191,go_sem,r0,r1,r2,r3]) rfl ⟨rfl,hbR⟩
    · have eV:V=.tuple #[bxV 0 0 0 0,.bool false]:=by rw [<-HV.out,qef,hE,if_neg (fun h=>hr h.1)]
      subst eV
      have hne:¬ bstr K=bstr l:=fun e=>by
       have h:=q3r hKb h256 e;have h3:=congrArg List.length hkl;rw [zny] at h3;have h4:=congrArg List.length h;exact hr (List.length_eq_zero_iff.1 oQ)
      generalize bstr l=S2 at*;obtain⟨S,hS⟩:∃S,bstr K=S:=⟨_,rfl⟩;have HS:=hdQ hS;rw [hS] at hne
      have hne2:(S.toList==S2.toList)=false:=by
       rw [beq_eq_false_iff_ne]
       exact fun e=>hne (toList_inj e)
      clear hne;clear hE hrd hck hck0 hkl hin hr hok hK hS hKb hk4 hl h256;go_wp2_with fail;refine qkw (fun w2=>(Below w.heap.size w w2/\Below wr.heap.size wr w2)/\Blk w2 w.heap.size 48 #[.int .i64 0,.int .i64 0,.int .i64 0,.int .i64 0]/\Blk w2 wr.heap.size 48 #[.int .i64 x,.int .i64 y,.int .i64 z,.int .i64 u]) ⟨⟨bel,bel⟩,blkA,blkA⟩ ?_
      clear hBx hAr hl1 hl2 cB cA fB fA hb;rintro w3 ⟨⟨hb3,hbr3⟩,hX,hY⟩;have cX:=hX.cell;have cY:=hY.cell;have fX:=hX.frozen;have lX:=hX.lt;have lY:=hY.lt;have hbs3:=hbr3.size;have HCv3:∀w',Below w3.heap.size w3 w' ->(convert 94 9 (.slice (some ⟨b',off',none⟩) n c)).run Tryz.prog w' =.ok (.string S2) w' :=fun w' h=>HCv w' (hbr3.trans (h.mono hbs3))
      refine qek [0,1,2,3,4,7,8,5] [6,9,10] kr kr pq ?_
      simp only [zdy,zey,ldz,lds,bare,qaj,lcz,lcs,zay]
      repeat' ((try simp only [Act.put,lsi,lsz,lss]);first|(refine qbo ?_ ?_;focus(simp only [lAq,zgy,zfy];done))|(refine qa8 ?_ ?_ ?_;(focus(simp only [lAq,zgy,zfy];done));(focus(exact bel)))|(refine qax (X:= ?_) ?_ ?_ (fun hg=> ?_) (fun hg=> ?_);rotate_left;(focus(simp only [lAq];with_reducible rfl));(focus(exact bel));all_goals(try simp only [zgy,zfy] at hg))|(refine lqx ?_)|(refine qab qaa rfl (fun K hK=> ?_);go_simp;((first |  (go_at_call 204;(with_reducible refine(HK.out _).mono ?_);rintro e w1 ⟨rfl,hb1⟩;have hb1' :Below w3.heap.size w3 w1:=bel;obtain⟨hc1,hf1⟩:=qbb hb1';have hz1:=hb1.size;(try simp at hz1);have hy1:w.heap.size<w1.heap.size:=oQ;have hy2:wr.heap.size<w1.heap.size:=oQ)|(go_at_call 186;(with_reducible refine(HKy.out _).mono ?_);rintro e w5 ⟨s5,rfl,ho5,hb5⟩;obtain⟨g5,c5,rfl,hnw5,hl5,hg5⟩:=qll ho5 oQ;have HCk:=qu5 ho5 oQ;rw [HS.out] at HCk;clear hnw5 ho5;obtain⟨hc5,hf5,hz5⟩:=bc3 hb5;(try simp at hz5);have hy5:w.heap.size<w5.heap.size:=oQ;have hy6:wr.heap.size<w5.heap.size:=oQ)|skip)<;>(refine hK.out _ _ bel ?_;clear hK K))))
      (all_goals try simp only [Act.put,lsi,lsz,lss]);all_goals(refine qad ?_)
      unfold two
      simp only [zdy,zey,ldz,lds,bare,qaj,lcz,lcs,zay]
      repeat' ((try simp only [Act.put,lsi,lsz,lss]);first|(refine qba (v:= ?_) qaa rfl ?_ ?_;rotate_left;focus(intro wq hq;subst hq;go_simp;try with_reducible rfl))|(refine qbo ?_ ?_;focus(simp only [lAq,zgy,zfy];done))|(refine qa8 ?_ rfl ?_;focus(simp only [lAq,zgy,zfy];done)))
      (all_goals try simp only [Act.put,lsi,lsz,lss]);all_goals(refine qad ?_)
      go_wp2;refine qc0 (R:=fun w2=>Blk w2 (w.heap.size) 48 #[.int .i64 0,.int .i64 0,.int .i64 0,.int .i64 0]/\Below w.heap.size w w2) ⟨?_,bel⟩ ?_
      · exact qd1 (x:=.int .i64 0) (y:=.int .i64 0) (z:=.int .i64 0) (u:=.int .i64 0) blkA
      rintro w2 ⟨HR,hbR⟩;obtain⟨r0,r1,r2,r3⟩:=ce4 HR;exact bodyPost_ret (v:=.tuple #[bxV 0 0 0 0,.bool false]) (by simp [results,Tryz.results191,go_sem,r0,r1,r2,r3]) rfl ⟨rfl,hbR⟩
end Go.Proofs.YtfnhnjbkkggbeaaGreat

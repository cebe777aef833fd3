/- A pack of texts. Conditions: those that each names. -/
import Derived.Test.YtgdhaaokolfdoaaGreatDoorNBB
set_option maxHeartbeats 16000000
set_option maxRecDepth 100000
set_option linter.all false
namespace Go.Proofs.YtgdhaaokolfdoaaGreatDoor
open Go.RowKit Go.Sg CP SF
def qm0 (base:Nat)(v:Value)(out:List Bt)(w:World)(e:Ending)(w':World):Prop:=∃ v',e = .returned v'/\bm0 w' base v' out/\Fr (fun b=>v.ownBlock=some b) w w'
variable {w:World}{base c d g i j k p q:Nat}{v:Value}{es:List Bt}{cur:Array Value}
theorem gJ0 (hE : bm0 w base v es) (hl : es.length <= 255) (i j : Nat) (hi : i < es.length) (hj : j = i + 1) :
    Calls Tryz.prog 135 #[v,.int .i64 i,.int .i64 j] w (qm0 base v (es.eraseIdx i) w):=by
  obtain⟨i0,hi0,hz0,hz1,hz2⟩:=info_parts Tryz.eo0;obtain⟨g,c,cur,rfl,hb,hg,hc,hm,hs,ht⟩:=iq0 hE oM;obtain⟨n,hn⟩:=eX es.length
  rw[hn] at hi hl hc ht ⊢;obtain⟨m1,hm1⟩:=eX (i+(n-j))
  have hm1n:m1+1=n:=oM
  have hc63:c<=9223372036854775807:=by simpa[maxLen] using hm
  obtain⟨v0,hS0⟩:=zz0 g n c i j n oM oM hc w;have hS1:=fun W=>xQ0 (some ⟨g,0,none⟩) n c i oM W
  have hij:((i:Int) == (j:Int))=false:=by simp;omega
  obtain⟨news,hnews⟩:=xe ((es.drop j).flatMap btC)
  have hnl:news.length=(n-j)*i0.size:=by rw[hnews,bl0,lv9,hn,hz1]
  obtain⟨A,hA,hsrc⟩:∃ A:Addr,(∀ W,(Instr.slice 127 (.slice (some ⟨g,0,none⟩) n c) (some (.int .i64 j)) none none).run Tryz.prog W = .ok (.slice (some A) (n-j) (c-j)) W)/\∀ t u,news[t]?=some u->w.drew.cell? (A.add t)=some u:=by
    by_cases hjc:j<c
    · refine⟨⟨g,j*4,none⟩,fun W=>ep0 g n c j oM hjc W,fun t u hu=>?_⟩;rw[aI0];show w.cell? _=_;rw[coh hg];rw[hnews,<- jS0,lB9,<- ht,gT] at hu;split at hu
      · simpa using hu
      · cases hu
    · refine⟨⟨g,0,none⟩,fun W=>?_,fun t u hu=>?_⟩
      · rw[bW0 127 4 kF (fun W=>by kernel_rfl) _ n c j oM W,if_pos oM]
      · have : news = [] := lH9 (by rw [hnl]; have : n - j = 0 := by omega
                                    rw[this,mr9])
        rw[this] at hu;simp at hu
  obtain⟨cur1,hcur1⟩:=xe ((cur.toList.take (i*i0.size)++news++cur.toList.drop (i*i0.size+news.length)).toArray)
  have hfit:i*i0.size+news.length<=cur.size:=by rw[hnl,hs,hz1,<- nj9];exact Nat.mul_le_mul_right _ oM
  have hap:∀ ty,(Builtin.append_ #[127,127] ty #[.slice (some ⟨g,0,none⟩) i c,.slice (some A) (n-j) (c-j)]).run Tryz.prog w.drew = .ok (.slice (some ⟨g,0,none⟩) m1 c) (w.drew.setRow g cur1):=fun ty=>by
    have:=run_append_room (P:=Tryz.prog) w.drew 127 ty 118 i0 Tryz.underlying127 hi0 g i c cur hg A (n-j) (c-j) news hnl hsrc (by rw[hnews];exact qW0 _) oM hfit;rw[hm1,<- hcur1] at this;exact this
  have hs1:cur1.size=c*4:=by
    rw[hcur1];simp only[zA,lA,lT,lv9,lT9];omega
  obtain⟨W1,hW1⟩:=eX (w.drew.setRow g cur1)
  have hg1:W1.heap[g]?=some (.cells cur1 118):=by rw[<- hW1];exact setRow_heap _ g cur cur1 118 _ hg
  have hS2:=fun W=>zy0 g m1 c m1 n oM hc oM W
  rw[show n-m1=1 by omega] at hS2;obtain⟨zs,hzl,hcl⟩:=iJ0 (P:=Tryz.prog) W1 127 118 (0:Nat) _ 4 Tryz.underlying127 Tryz.xM0 rfl dC (by simp[Value.cells,Value.oneCell']) g (m1*4) 1 (c-m1) dC cur1 118 hg1 (by rw[hs1];omega);have hcl':∀ ty,(Builtin.clear_ #[127] ty #[.slice (some ⟨g,m1*4,none⟩) 1 (c-m1)]).run Tryz.prog W1 = .ok (.tuple #[]) (W1.setRow g (cur1.toList.take (m1*4)++zs++cur1.toList.drop (m1*4+zs.length)).toArray):=fun _=>hcl
  clear hcl;obtain⟨of4,ho4⟩:=eX (m1*4)
  obtain⟨cur2,hcur2⟩:=xe ((cur1.toList.take (m1*4)++zs++cur1.toList.drop (m1*4+zs.length)).toArray)
  rw[<- hcur2] at hcl';-- what stands there in the end
  have hend:bm0 (W1.setRow g cur2) base (.slice (some ⟨g,0,none⟩) m1 c) (es.eraseIdx i):=by
    have hlen:(es.eraseIdx i).length=m1:=(by rw[List.length_eraseIdx_of_lt oM];omega);have hg2:=setRow_heap W1 g cur1 cur2 118 _ hg1;have:=eM0 (es:=es.eraseIdx i) (c:=c) hb hg2 oM hm (by
      rw[hcur2];simp only[zA,lA,lT,lv9,lT9];omega) (by
      rw[hlen,hcur2];simp only[lm9];rw[me9 (by rw[lT,lT9];omega),List.take_take,Nat.min_self,hcur1];have h4:(cur.toList.take (i*i0.size))=(es.take i).flatMap btC:=by
        rw[hz1];exact nU0 (by rw[hn];exact ht) oM
      rw[h4,hnews,List.eraseIdx_eq_take_drop_succ,li9,hj];exact ne9 (by
        simp only[lA,bl0,lT,lv9];omega))
    rw[hlen] at this;exact this
  have hfr:Fr (fun b=>b=g) w (W1.setRow g cur2):=by
    rw[<- hW1];exact ((Fr.refl (fun b=>b=g) _).drew.trans (cJ0 _ g cur1) nI).trans (cJ0 _ g cur2) nI
  rw[ho4] at hcl' hS2;rw[hW1] at hap;have HEnd:=hi2 hend hfr;have HAp:=hid hap;clear hE hb hg hs ht hm hnews hnl hsrc hcur1 hfit hap hs1 hW1 hg1 hzl ho4 hcur2 hend hfr hz0 hz1 hz2 hi0 hn hj;go_enter Tryz.func135,Tryz.ntmps135;go_wp2_with fail
  go_region_law (refine lP0 rfl (.tmp 22) (.tmp 25) 127 127 rfl _ _ (by simp[Act.eval,Act.put]) (by simp[Act.eval,Act.put]) (HAp.out _) ?_)
  go_wp2_with fail
  go_ret;refine⟨_,rfl,HEnd.out.1,HEnd.out.2.mono fun b _ h=>by subst h;rfl⟩
theorem fq0 (h:i+1=j)(hj:j<=1048576):wrap64 ((i:Int)+1)=(j:Int):=by simp only[wrap64];omega
theorem jr0 (h:i+1=j)(hj:j<=1048576):IntKind.i64.wrap ((i:Int)+1)=(j:Int):=by rw[IntKind.wrap_i64];omega
theorem sB0 {a b:Nat}(h:a-b=k)(hb:b<=a)(ha:a<=1048576):wrap64 ((a:Int)-(b:Int))=(k:Int):=by simp only[wrap64];omega
def hZ0 (es:List Bt)(i:Nat)(x:Bt):List Bt:=es.take i++x :: es.drop i
theorem gq0 (h:i<=es.length)(x:Bt):(hZ0 es i x).length=es.length+1:=by
 simp[hZ0,lT,lv9];omega
theorem fc0 (es:List Bt)(i:Nat)(x:Bt):(hZ0 es i x).flatMap btC=(es.take i).flatMap btC++(btC x++(es.drop i).flatMap btC):=by
 simp[hZ0,li9,lj9]
theorem Tryz.kd0:(Tryz.prog.info? 118).map (·.size)=some 4:=by kernel_rfl
theorem iL0 {c d:Array Value}(hq:w.heap[q]?=some (.cells c 118))(hg:w.heap[g]?=some (.cells d 118))(hne:q≠g)(hd:d.size≠0)(o m cm lb cb:Nat) :
  (callFunc 253 #[.slice (some ⟨q,0,none⟩) m cm,.slice (some ⟨g,o,none⟩) lb cb]).run Tryz.prog w = .ok (.value (.bool false)) w:=by
 rw[run_callFunc_extern Tryz.func253 kF kF kF (e:=Extern.SlicesOverlaps.overlaps #[127,127] #[4]) kF,
  Lib.run_overlaps_apart w 127 4 118 Tryz.underlying127 4 (fun W=>by kernel_rfl) ⟨q,0,none⟩ ⟨g,o,none⟩ m cm lb cb hne 118 118 c.size d.size (by simp[World.shape?,hq]) (by simp[World.shape?,hg]) hd (foh hq 0) (foh hq c.size)]
 rfl
theorem pm0 (hE:bm0 w base v es)(hl:es.length<=254)(hbase:base<=w.heap.size)(i:Nat)(hi:i=es.length)(x:Bt)(hq:w.heap[q]?=some (.cells #[.int .u64 x.hash,.int .i64 x.rg,.int .i64 x.at_,.int .i64 x.sz] 118)) :
  Calls Tryz.prog 201 #[v,.int .i64 i,.slice (some ⟨q,0,none⟩) 1 1] w (qm0 base v (hZ0 es i x) w):=by
 obtain⟨i0,hi0,hz0,hz1,hz2⟩:=info_parts Tryz.eo0;obtain⟨va,vc,rfl,hnc,-,-,-⟩:=oSl hE;have hw:hZ0 es i x=es++[x]:=by unfold hZ0;rw[hi,List.take_length,List.drop_length]
 rw[hw];have HE:=hi2 hE hl;obtain⟨n,hn⟩:=eX es.length
 rw[hn] at hi hl hnc hE ⊢;subst hi;obtain⟨v0,hS0⟩:∃ v0,∀ W,(Instr.slice 127 (.slice va i vc) (some (.int .i64 i)) none none).run Tryz.prog W = .ok v0 W:=⟨_,fun W=>bW0 127 4 kF (fun W=>by kernel_rfl) va i vc i (nR _) W⟩
 have HN:=hid hn;have HB:=hid hbase;have HS:=hid (show ts0 w (.slice (some ⟨q,0,none⟩) 1 1) 1 (btC x) from⟨_,1,rfl,.inr ⟨_,rfl,fun j u hj=>by rw[aI0,lp9,coh hq];simpa using hj⟩⟩);have HO:=hid hE;clear hE hl hbase hq hn hnc hw;go_enter Tryz.func201,Tryz.ntmps201;go_wp2_with (at_builtin;refine ag0 rfl (.tmp 23) (.tmp 24) 127 rfl base 118 i0 _ 4 32 Tryz.underlying127 hi0 hz0 hz1 hz2 rfl dC _ _ _ rfl HO.out _ 1 (btC x) rfl HS.out (by simp[btC]) (by intro u hu;simp[btC] at hu;rcases hu with rfl|rfl|rfl|rfl <;> rfl) (by have:=HE.out.2;have:=HN.out;simp[maxLen];omega) (by have:=HE.out.2;have:=HN.out;omega) HB.out ?_)
 intro v3 W3 hown3 hg3 hne3;have F3:Fr (fun b=>(Value.slice va i vc).ownBlock=some b) w W3:=⟨hg3.os,hg3.tape,hg3.output,hg3.size,fun b hb hn=>hg3.block b hb (fun e=>hn e.symm)⟩;have H3:=hi2 (show bm0 W3 base v3 (es++[x]) by
  show W3.ownsRow base 118 4 v3 (es++[x]).length ((es++[x]).flatMap btC);rw[lA,li9];simpa using hown3) F3
 clear hown3 hg3 hne3 F3;go_wp2_with fail
 go_ret;exact⟨_,rfl,H3.out.1,H3.out.2⟩
theorem mR0 (hb:base<=g)(hg:w.heap[g]?=some (.cells cur 118))(hc:es.length<=c)(hm:c<=maxLen)(hs:cur.size=c*4)(ht:cur.toList.take (es.length*4)=es.flatMap btC)(hl:es.length<=254)(i:Nat)(hi:i<es.length)(hroom:es.length+1<=c)
  (x:Bt) (hq:w.heap[q]?=some (.cells #[.int .u64 x.hash,.int .i64 x.rg,.int .i64 x.at_,.int .i64 x.sz] 118)) (hne:q≠g) :
  Calls Tryz.prog 201 #[.slice (some ⟨g,0,none⟩) es.length c,.int .i64 i,.slice (some ⟨q,0,none⟩) 1 1] w (qm0 base (.slice (some ⟨g,0,none⟩) es.length c) (hZ0 es i x) w):=by
 have hlen:=gq0 (np9 hi) x;have hdl:(es.drop i).length=es.length-i:=lv9;obtain⟨n,hn⟩:=eX es.length
 rw[hn] at hi hl hc ht hroom hlen hdl ⊢;obtain⟨n1,hn1⟩:=eX (n+1)
 obtain⟨j,hj⟩:=eX (i+1)
 rw[hn1] at hroom hlen;have hc63:c<=9223372036854775807:=by simpa[maxLen] using hm
 have hS0:=fun W=>ep0 g n c i oM oM W
 have hd0:((i:Int) == (n:Int))=false:=by simp;omega
 have HW1:=hid (show wrap64 ((n:Int)+1)=(n1:Int) from fq0 hn1 oM);have HW2:=hid (show wrap64 ((i:Int)+1)=(j:Int) from fq0 hj oM);have HW3:=hid (show IntKind.i64.wrap ((i:Int)+1)=(j:Int) from jr0 hj oM);have hd1:decide (c<n1)=false:=by simp;omega
 have hd2:decide ((c:Int)<(n1:Int))=false:=by simp;omega
 have hS1:=fun W=>xQ0 (some ⟨g,0,none⟩) n c n1 hroom W
 have hS2:=fun W=>ep0 g n1 c j oM oM W
 have hS3:=fun W=>ep0 g n1 c i oM oM W
 have hov:=fun lb cb=>iL0 hq hg hne (by rw[hs];omega) (j*4) 1 1 lb cb
 obtain⟨cs,hcs⟩:=xe ((es.drop i).flatMap btC)
 have hcl:cs.length=(n1-j)*4:=by rw[hcs,bl0,hdl];congr 1;omega
 obtain⟨cur1,hcur1⟩:=xe ((cur.toList.take (j*4)++cs++cur.toList.drop (j*4+cs.length)).toArray)
 have hs1:cur1.size=c*4:=by
  rw[hcur1];simp only[zA,lA,lT,lv9,lT9];omega
 have hcp1:∀ ty,(Builtin.copy_ #[127,127] ty #[.slice (some ⟨g,j*4,none⟩) (n1-j) (c-j),.slice (some ⟨g,i*4,none⟩) (n1-i) (c-i)]).run Tryz.prog w.drew = .ok (goInt ((n1-j:Nat):Int)) (w.drew.setRow g cur1):=fun ty=>by
  rw[hcur1];exact cq0 w.drew 127 127 ty 118 4 (n1-j) g (j*4) (n1-j) (c-j) ⟨g,i*4,none⟩ (n1-i) (c-i) cur 118 cs Tryz.underlying127 Tryz.kd0 hg (by simp only[Nat.min_def];split <;> omega) hcl (fun t u hu=>by
   rw[aI0];show w.cell? _=_;rw[coh hg];rw[hcs,<- jS0,lB9,<- ht,gT] at hu;split at hu
   ·simpa using hu
   ·cases hu) (by rw[hcl,hs];omega) (by rw[hcs];exact qW0 _)
 obtain⟨W1,hW1⟩:=eX (w.drew.setRow g cur1)
 have hg1:W1.heap[g]?=some (.cells cur1 118):=by rw[<- hW1];exact setRow_heap _ g cur cur1 118 _ hg
 have hq1:W1.heap[q]?=some (.cells #[.int .u64 x.hash,.int .i64 x.rg,.int .i64 x.at_,.int .i64 x.sz] 118):=by rw[<- hW1,setRow_other _ g q _ hne];exact hq
 obtain⟨cur2,hcur2⟩:=xe ((cur1.toList.take (i*4)++btC x++cur1.toList.drop (i*4+(btC x).length)).toArray)
 have hcp2:∀ ty,(Builtin.copy_ #[127,127] ty #[.slice (some ⟨g,i*4,none⟩) (n1-i) (c-i),.slice (some ⟨q,0,none⟩) 1 1]).run Tryz.prog W1 = .ok (goInt 1) (W1.setRow g cur2):=fun ty=>by
  rw[hcur2];exact cq0 W1 127 127 ty 118 4 1 g (i*4) (n1-i) (c-i) ⟨q,0,none⟩ 1 1 cur1 118 (btC x) Tryz.underlying127 Tryz.kd0 hg1 (by simp only[Nat.min_def];split <;> omega) (by simp[btC]) (fun t u hu=>by
   rw[aI0,lp9,coh hq1];simpa using hu) (by rw[hs1];simp[btC];omega) (by intro u hu;simp[btC] at hu;rcases hu with rfl|rfl|rfl|rfl <;> rfl)
 have hend:bm0 (W1.setRow g cur2) base (.slice (some ⟨g,0,none⟩) n1 c) (hZ0 es i x):=by
  have hg2:=setRow_heap W1 g cur1 cur2 118 _ hg1;have:=eM0 (es:=hZ0 es i x) (c:=c) hb hg2 oM hm (by
   rw[hcur2];simp only[zA,lA,lT,lv9,lT9,show (btC x).length=4 from rfl];omega) (by
   rw[hlen,fc0,hcur2];have e1:cur1.toList.take (i*4)=(es.take i).flatMap btC:=by
    rw[hcur1];simp only[lm9];rw[me9 (by rw[lT,lT9];omega),List.take_take,show min (i*4) (j*4)=i*4 by omega];exact nU0 (by rw[hn];exact ht) oM
   have e2:cur1.toList.drop (i*4+(btC x).length)=cs++cur.toList.drop (j*4+cs.length):=by
    rw[hcur1,show i*4+(btC x).length=j*4 by simp[btC];omega];simp only[lm9];exact List.drop_left' (by rw[lT,lT9];omega)
   rw[e1,e2,<- hcs];simp only[lm9];rw[<- lm9 (btC x),<- lm9];exact ne9 (by
    simp only[lA,bl0,lT,hn,hcl,show (btC x).length=4 from rfl];omega))
  rw[hlen] at this;exact this
 have hfr:Fr (fun b=>b=g) w (W1.setRow g cur2):=by
  rw[<- hW1];exact ((Fr.refl (fun b=>b=g) _).drew.trans (cJ0 _ g cur1) nI).trans (cJ0 _ g cur2) nI
 rw[hW1] at hcp1;obtain⟨oj,hoj⟩:=eX (j*4)
 obtain⟨oi,hoi⟩:=eX (i*4)
 obtain⟨lj,hlj⟩:=eX (n1-j)
 obtain⟨li,hli⟩:=eX (n1-i)
 rw[hoj,hoi,hlj,hli] at hcp1;rw[hoi,hli] at hcp2;rw[hoi] at hS0;rw[hoi,hli] at hS3;rw[hoj,hlj] at hS2;rw[hoj] at hov;have HEnd:=hi2 hend hfr;have HC1:=hid hcp1;have HC2:=hid hcp2;clear hb hg hs ht hm hcs hcl hcur1 hcp1 hs1 hW1 hg1 hq hq1 hcur2 hcp2 hend hfr hn hoj hoi hlj hli hlen hdl;subst hn1;subst hj;simp only[Int.natCast_add,Int.natCast_one] at hS1 hS2 hd2;have hw3:IntKind.i64.wrap ((i:Int)+1)=(i:Int)+1:=by have:=HW3.out;simpa using this
 have hcp2:=HC2.out;go_enter Tryz.func201,Tryz.ntmps201;go_wp2_with (simp only[hov])
 go_region_law (refine fw0 rfl (.tmp 73) (.tmp 76) 127 127 rfl _ _ (by simp[Act.eval,Act.put]) (by simp[Act.eval,Act.put]) (HC1.out _) ?_)
 go_wp2_with fail
 go_ret;exact⟨_,rfl,HEnd.out.1,HEnd.out.2.mono fun b _ h=>by subst h;rfl⟩
theorem mS0 (hg:w.heap[g]?=some (.cells cur 118))(hc:es.length<=c)(hm:c<=maxLen)(ht:cur.toList.take (es.length*4)=es.flatMap btC)(hl:es.length<=254)(hbase:base<=w.heap.size)(i:Nat)(hi:i<es.length)(hroom:¬ es.length+1<=c)
  (x:Bt) (hq:w.heap[q]?=some (.cells #[.int .u64 x.hash,.int .i64 x.rg,.int .i64 x.at_,.int .i64 x.sz] 118)) :
  Calls Tryz.prog 201 #[.slice (some ⟨g,0,none⟩) es.length c,.int .i64 i,.slice (some ⟨q,0,none⟩) 1 1] w (qm0 base (.slice (some ⟨g,0,none⟩) es.length c) (hZ0 es i x) w):=by
 obtain⟨i0,hi0,hz0,hz1,hz2⟩:=info_parts Tryz.eo0;have hlen:=gq0 (np9 hi) x;have hdl:(es.drop i).length=es.length-i:=lv9;have htl:(es.take i).length=i:=by rw[lT];omega
 obtain⟨n,hn⟩:=eX es.length
 rw[hn] at hi hl hc ht hroom hlen hdl ⊢;obtain⟨n1,hn1⟩:=eX (n+1)
 obtain⟨j,hj⟩:=eX (i+1)
 obtain⟨k,hk⟩:=eX (n1-i)
 obtain⟨N,hN⟩:=eX w.heap.size
 rw[hn1] at hroom hlen;have hc63:c<=9223372036854775807:=by simpa[maxLen] using hm
 have hgN:g<N:=by rw[<- hN];exact loh hg
 have hqN:q<N:=by rw[<- hN];exact loh hq
 have hd0:((i:Int) == (n:Int))=false:=by simp;omega
 have HW1:=hid (show wrap64 ((n:Int)+1)=(n1:Int) from fq0 hn1 oM);have HW2:=hid (show wrap64 ((i:Int)+1)=(j:Int) from fq0 hj oM);have HW3:=hid (show IntKind.i64.wrap ((i:Int)+1)=(j:Int) from jr0 hj oM);have HW4:=hid (show wrap64 ((n1:Int)-(i:Int))=(k:Int) from sB0 hk oM oM);have hd1:decide (c<n1)=true:=by simp;omega
 have hd2:decide ((c:Int)<(n1:Int))=true:=by simp;omega
 have hS0:=fun W=>ep0 g n c i oM oM W
 have hS1:=fun W=>xQ0 (some ⟨g,0,none⟩) n c i oM W
 obtain⟨olds,holds⟩:=xe ((es.take i).flatMap btC)
 have hol:olds.length=i*4:=by rw[holds,bl0,htl]
 have hcell:∀ (k:Nat) (u:Value),((es.drop i).flatMap btC)[k]?=some u->w.cell? ⟨g,i*4+k,none⟩=some u:=fun k u hu=>by
  rw[coh hg];rw[<- jS0,lB9,<- ht,gT] at hu;split at hu
  ·simpa using hu
  ·cases hu
 have hold:(Builtin.firstCells i0.size i (.slice (some ⟨g,0,none⟩) i c)).run Tryz.prog w.drew = .ok olds.toArray w.drew:=
  run_firstCells_some w.drew i0.size i ⟨g,0,none⟩ i c olds (by rw[hol,hz1]) (fun t u hu=>by
   rw[aI0,lp9];show w.cell? _=_;rw[coh hg];rw[holds,<- mr0,<- ht,gT] at hu;split at hu
   ·rw[gT] at hu;split at hu
    ·simpa using hu
    ·cases hu
   ·cases hu)
 obtain⟨G,hG⟩:=xe (grownCap w (i+k) c 118)
 have hik:i+k=n1:=oM
 have hGn:n1<=G:=by rw[hG,<- hik];exact grownCap_ge w _ _ _
 have hGm:G<=maxLen:=by rw[hG];exact grownCap_le_maxLen w _ _ _ (by simp only[maxLen];omega)
 obtain⟨Z1,hZ1⟩:=xe (Builtin.zeroCells (Value.agg #[.int .u64 0,.int .i64 0,.int .i64 0,.int .i64 0]).cells k)
 obtain⟨Z2,hZ2⟩:=xe (Builtin.zeroCells (Value.agg #[.int .u64 0,.int .i64 0,.int .i64 0,.int .i64 0]).cells (G-n1))
 have hz1l:Z1.size=k*4:=by rw[hZ1,size_zeroCells];rfl
 have hz2l:Z2.size=(G-n1)*4:=by rw[hZ2,size_zeroCells];rfl
 obtain⟨ROW,hROW⟩:∃ ROW:Array Value,ROW=olds.toArray++Z1++Z2:=⟨_,rfl⟩
 have hRs:ROW.size=G*4:=by
  rw[hROW];simp only[Array.size_append,zA,hol,hz1l,hz2l];omega
 have hRt:ROW.toList.take (i*4)=olds:=by
  rw[hROW];simp only[Array.toList_append,lm9];exact ne9 hol
 obtain⟨W1,hW1⟩:=eX (w.drew.alloc (.cells ROW 118))
 have hrz:∀ ty,(Builtin.append_ #[127,3] ty #[.slice (some ⟨g,0,none⟩) i c,.int .i64 k]).run Tryz.prog w = .ok (.slice (some ⟨N,0,none⟩) n1 G) W1:=fun ty=>by
  have h:=Lib.run_append_grow_zeros w 127 3 ty 118 i0 _ .i64 .i64 Tryz.underlying127 Tryz.underlying3 hi0 hz0 (some ⟨g,0,none⟩) i c olds hold k oM oM oM oM (by rw[hz2];omega) (by rw[hz2];exact growslice_fits oM oM);rw[<- hG,hik,<- hZ1,<- hZ2,<- hROW,hW1,hN] at h;exact h
 have hg1:W1.heap[N]?=some (.cells ROW 118):=by rw[<- hW1,<- hN];exact han w.drew _
 have F1:Fq w W1:=by rw[<- hW1];exact (Fr.refl _ _).drew.alloc _
 have hS2:=fun W=>ep0 N n1 G i oM oM W
 obtain⟨cur1,hcur1⟩:=xe ((ROW.toList.take (i*4)++btC x++ROW.toList.drop (i*4+(btC x).length)).toArray)
 have hs1:cur1.size=G*4:=by
  rw[hcur1];simp only[zA,lA,lT,lv9,lT9,show (btC x).length=4 from rfl];omega
 have hcp1:∀ ty,(Builtin.copy_ #[127,127] ty #[.slice (some ⟨N,i*4,none⟩) (n1-i) (G-i),.slice (some ⟨q,0,none⟩) 1 1]).run Tryz.prog W1 = .ok (goInt 1) (W1.setRow N cur1):=fun ty=>by
  rw[hcur1];exact cq0 W1 127 127 ty 118 4 1 N (i*4) (n1-i) (G-i) ⟨q,0,none⟩ 1 1 ROW 118 (btC x) Tryz.underlying127 Tryz.kd0 hg1 (by simp only[Nat.min_def];split <;> omega) (by simp[btC]) (fun t u hu=>by
   rw[aI0,lp9,coh (F1.heap hq id)];simpa using hu) (by rw[hRs];simp[btC];omega) (by intro u hu;simp[btC] at hu;rcases hu with rfl|rfl|rfl|rfl <;> rfl)
 obtain⟨W2,hW2⟩:=eX (W1.setRow N cur1)
 have hg2:W2.heap[N]?=some (.cells cur1 118):=by rw[<- hW2];exact setRow_heap _ N ROW cur1 118 _ hg1
 have F2:Fq w W2:=by
  rw[<- hW2];exact F1.trans (cJ0 _ N cur1) (fun b hb h=>oM)
 have hS3:=fun W=>ep0 N n1 G j oM oM W
 obtain⟨cs,hcs⟩:=xe ((es.drop i).flatMap btC)
 have hcl:cs.length=(n1-j)*4:=by rw[hcs,bl0,hdl];congr 1;omega
 obtain⟨cur2,hcur2⟩:=xe ((cur1.toList.take (j*4)++cs++cur1.toList.drop (j*4+cs.length)).toArray)
 have hcp2:∀ ty,(Builtin.copy_ #[127,127] ty #[.slice (some ⟨N,j*4,none⟩) (n1-j) (G-j),.slice (some ⟨g,i*4,none⟩) (n-i) (c-i)]).run Tryz.prog W2.drew = .ok (goInt ((n1-j:Nat):Int)) (W2.drew.setRow N cur2):=fun ty=>by
  rw[hcur2];exact cq0 W2.drew 127 127 ty 118 4 (n1-j) N (j*4) (n1-j) (G-j) ⟨g,i*4,none⟩ (n-i) (c-i) cur1 118 cs Tryz.underlying127 Tryz.kd0 hg2 (by simp only[Nat.min_def];split <;> omega) hcl (fun t u hu=>by
   rw[aI0];show W2.cell? _=_;rw[hcs] at hu;exact (F2.cell (p:=⟨g,i*4+t,none⟩) (loh hg) id).trans (hcell t u hu)) (by rw[hcl,hs1];omega) (by rw[hcs];exact qW0 _)
 have hend:bm0 (W2.drew.setRow N cur2) base (.slice (some ⟨N,0,none⟩) n1 G) (hZ0 es i x):=by
  have hg3:=setRow_heap W2.drew N cur1 cur2 118 _ hg2;have:=eM0 (es:=hZ0 es i x) (c:=G) (by rw[<- hN];exact hbase) hg3 oM hGm (by
   rw[hcur2];simp only[zA,lA,lT,lv9,lT9];omega) (by
   rw[hlen,fc0,hcur2];have e1:cur1.toList.take (j*4)=(es.take i).flatMap btC++btC x:=by
    have ec:cur1.toList=(es.take i).flatMap btC++(btC x++ROW.toList.drop (i*4+(btC x).length)):=by
     rw[hcur1,<- holds,<- hRt];simp
    rw[ec,<- lm9];exact ne9 (by
     simp only[lA,bl0,htl,show (btC x).length=4 from rfl];omega)
   rw[e1,<- hcs];simp only[lm9];rw[<- lm9 (btC x),<- lm9];exact ne9 (by
    simp only[lA,bl0,lT,hn,hcl,show (btC x).length=4 from rfl];omega))
  rw[hlen] at this;exact this
 have hfr:Fq w (W2.drew.setRow N cur2):=F2.drew.trans (cJ0 _ N cur2) (fun b hb h=>oM);obtain⟨oj,hoj⟩:=eX (j*4)
 obtain⟨oi,hoi⟩:=eX (i*4)
 obtain⟨lj,hlj⟩:=eX (n1-j)
 obtain⟨ni,hni⟩:=eX (n-i)
 rw[hoj,hoi,hlj,hni] at hcp2;rw[hoi,hk,hW2] at hcp1;rw[hoi,hni] at hS0;rw[hoi,hk] at hS2;rw[hoj,hlj] at hS3;have HEnd:=hi2 hend hfr;have HC1:=hid hcp1;have HC2:=hid hcp2;clear hg ht hm hcs hcl hcur1 hcp1 hs1 hW1 hg1 hq hcur2 hcp2 hend hfr hn hN hoj hoi hlj hni hlen hdl hROW hRs hRt hZ1 hZ2 hz1l hz2l hG hold holds hol hcell hW2 hg2 F1 F2 htl hi0 hz0 hz1 hz2 hik hgN hqN;have hke:(k:Int)=(n:Int)+1-(i:Int):=oM
 rw[hke] at hrz;have HRZ:=hid hrz;subst hn1;subst hj;clear hrz hke hk;simp only[Int.natCast_add,Int.natCast_one] at hS3 hd2;have hw3:IntKind.i64.wrap ((i:Int)+1)=(i:Int)+1:=by have:=HW3.out;simpa using this
 have hcp1:=HC1.out;go_enter Tryz.func201,Tryz.ntmps201;go_wp2_with (at_builtin;refine iH0 rfl _ _ 127 3 rfl _ _ rfl rfl (HRZ.out _) ?_)
 go_region_law (refine fw0 rfl (.tmp 50) (.tmp 53) 127 127 rfl _ _ (by simp[Act.eval,Act.put]) (by simp[Act.eval,Act.put]) (HC2.out _) ?_)
 go_wp2_with fail
 go_ret;exact⟨_,rfl,HEnd.out.1,HEnd.out.2.mono fun b _ h=>h.elim⟩
theorem mT0 (hE:bm0 w base v es)(hl:es.length<=254)(hbase:base<=w.heap.size)(i:Nat)(hi:i<=es.length)(x:Bt)(hq:w.heap[q]?=some (.cells #[.int .u64 x.hash,.int .i64 x.rg,.int .i64 x.at_,.int .i64 x.sz] 118))(hv:v.ownBlock≠some q) :
  Calls Tryz.prog 201 #[v,.int .i64 i,.slice (some ⟨q,0,none⟩) 1 1] w (qm0 base v (hZ0 es i x) w):=by
 by_cases h:i=es.length
 ·exact pm0 hE hl hbase i h x hq
 ·obtain⟨g,c,cur,rfl,hb,hg,hc,hm,hs,ht⟩:=iq0 hE oM;by_cases hr:es.length+1<=c
  ·exact mR0 hb hg hc hm hs ht hl i oM hr x hq (fun e=>hv (by rw[e];rfl))
  ·exact mS0 hg hc hm ht hl hbase i oM hr x hq
def bK0 (es:List Bt)(x:Bt):List Bt:=if hasB es x.hash=true then es.set (plI es x.hash) x else hZ0 es (plI es x.hash) x
theorem vU0 (l:List Bt):∀ (k:Nat) (x:Bt),k<l.length->(l.set k x).flatMap btC=((((l.flatMap btC).set (k*4) (.int .u64 x.hash)).set (k*4+1) (.int .i64 x.rg)).set (k*4+2) (.int .i64 x.at_)).set (k*4+3) (.int .i64 x.sz):=by
 induction l with
 | nil=>intro k x h;simp at h
 | cons y l ih =>
  intro k x h;cases k with
  | zero=>simp[btC]
  | succ k =>
   have e:(k+1)*4=k*4+1+1+1+1:=oM
   have h':k<l.length:=by simpa using h
   rw[e];simp only[sS,lj9,btC,lo9,le9];rw[ih k x h']
theorem ue0 {l:List Bt}(h:bm0 w base (.slice (some ⟨g,0,none⟩) l.length c) l)(hk:k<l.length)(x:Bt) :
  bm0 ((((w.setCell ⟨g,k*4,none⟩ (.int .u64 x.hash)).setCell ⟨g,k*4+1,none⟩ (.int .i64 x.rg)).setCell ⟨g,k*4+2,none⟩ (.int .i64 x.at_)).setCell ⟨g,k*4+3,none⟩ (.int .i64 x.sz)) base (.slice (some ⟨g,0,none⟩) (l.set k x).length c) (l.set k x):=by
 obtain⟨hl,⟨h0,h1⟩|⟨g',cap,cur,hv,hb,hg,hc,hm,hs,ht⟩⟩:=h
 ·cases h0
 ·cases hv;refine⟨by rw[bl0],.inr ⟨g,c,(((cur.setIfInBounds (k*4) (.int .u64 x.hash)).setIfInBounds (k*4+1) (.int .i64 x.rg)).setIfInBounds (k*4+2) (.int .i64 x.at_)).setIfInBounds (k*4+3) (.int .i64 x.sz),by rw[lx9],hb,?_,by rw[lx9];exact hc,hm,by simpa using hs,?_⟩⟩
  ·rw[hsc _ _ _ _ (hsc _ _ _ _ (hsc _ _ _ _ (hsc _ _ _ _ hg)))]
  ·rw[vU0 l k x hk,lx9,<- ht];simp only[mT9,List.take_set]
theorem mt0 (hE:bm0 w 0 v es)(hs:aa0 es)(hl:es.length<=254)(d p:Int)(x:Bt) :
  Calls Tryz.prog 136 #[bkV d p v,btV x] w (BkP d p (bK0 es x) w):=by
 obtain⟨va,vc,rfl,-,-,-,-⟩:=oSl hE;obtain⟨n,hn⟩:=eX es.length
 obtain⟨w1,hw1⟩:=eX (((w.alloc (.cells #[.int .i64 d,.int .i64 p,.slice va n vc] 129)).alloc (.cells #[.int .u64 x.hash,.int .i64 x.rg,.int .i64 x.at_,.int .i64 x.sz] 118)).alloc (.cells #[.int .i64 0,.int .i64 0,.slice none 0 0] 129))
 obtain⟨b0,b1,b2,F1⟩:=aO0 hw1;have HB:=hid (fun W (F:Fr (fun b=>b=w.heap.size+2) w1 W)=>aI (cells3 (F.heap b0 (fun h=>oM))) (ah0 (F.heap b1 (fun h=>oM))));have HY:=hid (fun W (F:Fq w1 W)=>cells3 (F.heap b2 id));have hE1:=oN hE F1;have HPl:=hid (kn0 hE1 hs oM d p x.hash);have HCl:=hid (fun W (F:Fq w1 W)=>iC0 (oN hE1 F) oM);have HF1:=hid F1;have HN:=hid hn;have HL:=hid hl;have HSo:=hid hs;have hsz:w1.heap.size=w.heap.size+3:=by rw[<- hw1];simp
 have HSz:=hid hsz;obtain⟨⟨x0,x1,x2,xz,xl⟩,⟨t0,t1,t2,t3,tz,tl⟩⟩:=HB.out _ (Fr.refl _ _);have HW:=hid hw1;rw[hn] at HPl HCl ⊢;clear hw1 b0 b1 b2 F1 hE hs hl hn hsz hE1;obtain⟨q,hq⟩:=eX (plI es x.hash)
 have HQ:=hi2 hq (show q<=es.length by rw[<- hq];exact ot0 _ _);obtain⟨hb,hhb⟩:=eX (hasB es x.hash)
 have HPl':=hid (show Calls Tryz.prog 199 #[bkV d p (.slice va n vc),.int .u64 x.hash] w1 (fun e w'=>e = .returned (.tuple #[.int .i64 q,.bool hb])/\Fq w1 w') from HPl.out.mono fun e w' hp=>⟨by rw[<- hq,<- hhb];exact hp.1,hp.2⟩);clear HPl hq;go_enter Tryz.func136,Tryz.ntmps136;go_upto_region 1 with fail
 rw[HW.out];go_wp2_with fail
 refine HPl'.out.mono ?_;rintro e W2 ⟨rfl,F2⟩;have HF2:=hi2 F2 (show w1.heap.size<=W2.heap.size from F2.size);clear x0 x1 x2 xz xl t0 t1 t2 t3 tz tl;obtain⟨⟨x0,x1,x2,xz,xl⟩,⟨t0,t1,t2,t3,tz,tl⟩⟩:=HB.out _ (F2.mono fun _ _ h=>h.elim);clear F2;go_wp2_with fail
 refine (HCl.out _ HF2.out.1).mono ?_;rintro e W3 ⟨v3,rfl,hown3,F3⟩;obtain⟨a3,c3,rfl,-,-,-,-⟩:=oSl hown3;have H3:=hi2 hown3 (HF2.out.1.trans F3 nI);have hs23:=F3.size;have HSz2:=hid (show w.heap.size<=W2.heap.size by have:=HSz.out;have:=HF2.out.2;omega);clear hown3 F3 x0 x1 x2 xz xl t0 t1 t2 t3 tz tl;obtain⟨⟨x0,x1,x2,xz,xl⟩,⟨t0,t1,t2,t3,tz,tl⟩⟩:=HB.out _ (H3.out.2.mono fun _ _ h=>h.elim);rw[HN.out];cases hb with
 | true =>
  have hP:bK0 es x=es.set q x:=by unfold bK0;rw[hhb,if_pos rfl,HQ.out.1]
  obtain⟨y,hy,-⟩:=(bB0 HSo.out).1 hhb;rw[HQ.out.1] at hy;have hqn:q<n:=by rw[<- HN.out];exact (gI.1 hy).1
  obtain⟨g,rfl,hg,u0,u1,u2,u3⟩:=bG0 H3.out.1 hy;have hgb:W2.heap.size<=g:=by
   have:=(aW0 (g:=g) H3.out.1 rfl).1;exact this
  have hgz:∀ o,W3.frozen? ⟨g,o,none⟩=false:=by
   obtain⟨g',c',cur,e,-,hg',-⟩:=iq0 H3.out.1 (by rw[HN.out];omega);cases e;exact fun o=>foh hg' o
  have hqi:(q:Int)<(n:Int):=oM
  have hg0:g≠w.heap.size:=by have:=HSz.out;have:=HF2.out.2;omega
  have hg1:g≠w.heap.size+1:=by have:=HSz.out;have:=HF2.out.2;omega
  have hg2:g≠w.heap.size+2:=by have:=HSz.out;have:=HF2.out.2;omega
  have HP:=hid hP;have HGB:=hid hgb;have HSet:=hid (ue0 H3.out.1 (by rw[HN.out];exact hqn) x);clear hP hy hgb;go_upto_region 5 with fail
  obtain⟨W5,hW5⟩:=eX ((((W3.setCell ⟨g,q*4,none⟩ (.int .u64 x.hash)).setCell ⟨g,q*4+1,none⟩ (.int .i64 x.rg)).setCell ⟨g,q*4+2,none⟩ (.int .i64 x.at_)).setCell ⟨g,q*4+3,none⟩ (.int .i64 x.sz))
  rw[hW5] at HSet ⊢;have F5:Fr (fun b=>b=g) W3 W5:=by
   rw[<- hW5];exact ((((Fr.refl (fun b=>b=g) W3).setCell (a:=⟨g,_,none⟩) (fun _=>rfl) _).setCell (a:=⟨g,_,none⟩) (fun _=>rfl) _).setCell (a:=⟨g,_,none⟩) (fun _=>rfl) _).setCell (a:=⟨g,_,none⟩) (fun _=>rfl) _
  have F15:Fq w1 W5:=H3.out.2.trans F5 (fun b hb e=>by have:=HGB.out;have:=HF2.out.2;omega);have H5:=hid F15;clear F5 hW5 u0 u1 u2 u3 hgz x0 x1 x2 xz xl t0 t1 t2 t3 tz tl;obtain⟨⟨x0,x1,x2,xz,xl⟩,⟨t0,t1,t2,t3,tz,tl⟩⟩:=HB.out _ (F15.mono fun _ _ h=>h.elim);clear F15;go_wp2_with fail
  refine (iS0 d p va n vc (some ⟨g,0,none⟩) n c3 _).mono ?_;rintro e W6 ⟨rfl,F6⟩;have H6:=hi2 F6 (H5.out.trans F6 nI);clear F6 x0 x1 x2 xz xl t0 t1 t2 t3 tz tl;obtain⟨y0,y1,y2,yz,yl⟩:=HY.out _ H6.out.2;go_wp2_with fail
  have FS:∀ (W:World) (o:Nat) (u:Value),Fr (fun b=>b=w.heap.size+2) W (W.setCell ⟨w.heap.size+2,o,none⟩ u):=fun W o u=>(Fr.refl (fun b=>b=w.heap.size+2) _).setCell (a:=⟨w.heap.size+2,o,none⟩) (fun _=>rfl) u
  refine bodyPost_ret (v:=bkV d p (.slice (some ⟨g,0,none⟩) n c3)) sR rfl ⟨some ⟨g,0,none⟩,c3,by rw[HP.out,lx9,HN.out],?_,?_⟩
  ·rw[HP.out];exact aS0 (ac0 (oN HSet.out H6.out.1) HSz2.out) (((FS _ _ _).trans (FS _ _ _) nI).trans (FS _ _ _) nI) (fun g' hg' e=>by
    have e1:g=g':=Option.some.inj hg';omega)
  ·have hs:=HSz.out;exact (((HF1.out.trans H6.out.2 nI).an0 oM _).an0 oM _).an0 oM _
 | false =>
  have hP:bK0 es x=hZ0 es q x:=by unfold bK0;rw[hhb,if_neg dC,HQ.out.1]
  clear x0 x1 x2 xz xl t0 t1 t2 t3 tz tl;go_wp2_with fail
  refine wp_region_noPanic ?_;refine aq0 (fun V=>Fr (fun b=>b=w.heap.size+2) w1 V) (.rd 0 (.rd 1 (.rd 2 (.rd 3 (.op 4 (.op 5 (.op 6 (.op 7 .done)))))))) kF kF kF (fun _ _ _ _ _ h=>h) (H3.out.2.drew.mono fun _ _ h=>h.elim) ?_;iterate 4
   try simp only[Act.put,sI,sZ,sS]
   refine ay0 _ ?_ gF rF ?_ ?_;rotate_left
   ·intro V hV;obtain⟨⟨x0,x1,x2,xz,xl⟩,⟨t0,t1,t2,t3,tz,tl⟩⟩:=HB.out V hV;go_simp;try with_reducible rfl
  try simp only[Act.put,sI,sZ,sS]
  refine az0 _ gF rF (fun K hK=>?_);go_simp;have hq3:((W3.alloc (.cells #[.int .u64 x.hash,.int .i64 x.rg,.int .i64 x.at_,.int .i64 x.sz] 118)).drew).heap[W3.heap.size]?=some (.cells #[.int .u64 x.hash,.int .i64 x.rg,.int .i64 x.at_,.int .i64 x.sz] 118):=han W3 _;have FA:Fq W3 ((W3.alloc (.cells #[.int .u64 x.hash,.int .i64 x.rg,.int .i64 x.at_,.int .i64 x.sz] 118)).drew):=((Fr.refl _ _).alloc _).drew;have HIn:=hid (mT0 (oN H3.out.1 FA) HL.out (nT hs23 FA.size) q HQ.out.2 x hq3 (fun e=>by have:=(aW0 H3.out.1 e).2;simp at this));obtain⟨V1,hV1⟩:=eX ((W3.alloc (.cells #[.int .u64 x.hash,.int .i64 x.rg,.int .i64 x.at_,.int .i64 x.sz] 118)).drew)
  rw[hV1] at HIn FA;have FG:=H3.out.2.trans FA nI;have FGS:Fr (fun b=>b=w.heap.size+2) w1 V1:=FG.mono fun _ _ h=>h.elim
  try rw[hV1]
  refine hK _ _ FGS ?_;clear hK K hq3;try simp only[Act.put,sI,sZ,sS]
  refine az0 _ gF rF (fun K hK=>?_);go_simp;rw[HN.out] at HIn;refine HIn.out.mono ?_;rintro _ V2 ⟨v4,rfl,hown4,F4⟩;have FG4:Fq w1 V2:=FG.trans F4 (fun b hb e=>by have:=(aW0 H3.out.1 (show (Value.slice a3 es.length c3).ownBlock=some b by rw[HN.out];exact e)).1;have:=HF2.out.1.size;omega);have FGS:Fr (fun b=>b=w.heap.size+2) w1 V2:=FG4.mono fun _ _ h=>h.elim
  obtain⟨a4,c4,rfl,-,-,-,-⟩:=oSl hown4;have H4:=hi2 hown4 FG4;obtain⟨n4,hn4⟩:=eX ((hZ0 es q x).length)
  have HN4:=hid hn4;rw[hn4];try go_simp
  refine hK _ _ FGS ?_;clear hK K hown4 F4 hn4 FG4;try simp only[Act.put,sI,sZ,sS]
  refine az0 _ gF rF (fun K hK=>?_);go_simp;refine (iS0 d p va n vc a4 n4 c4 _).mono ?_;rintro _ V3 ⟨rfl,F5⟩;have FG5:Fq w1 V3:=H4.out.2.trans F5 nI;have FGS:Fr (fun b=>b=w.heap.size+2) w1 V3:=FG5.mono fun _ _ h=>h.elim
  have H5:=hi2 (oN H4.out.1 F5) FG5;try go_simp
  refine hK _ _ FGS ?_;clear hK K F5 FG5;try simp only[Act.put,sI,sZ,sS]
  refine az0 _ gF rF (fun K hK=>?_);obtain⟨y0,y1,y2,yz,yl⟩:=HY.out _ H5.out.2;go_simp;refine hK _ _ (((FGS.setCell (fun _=>rfl) _).setCell (fun _=>rfl) _).setCell (fun _=>rfl) _) ?_;clear hK K;try simp only[Act.put,sI,sZ,sS]
  refine ar0 ?_;refine NoPanic.normal ?_;go_wp2_with fail
  have FS:∀ (W:World) (o:Nat) (u:Value),Fr (fun b=>b=w.heap.size+2) W (W.setCell ⟨w.heap.size+2,o,none⟩ u):=fun W o u=>(Fr.refl (fun b=>b=w.heap.size+2) _).setCell (a:=⟨w.heap.size+2,o,none⟩) (fun _=>rfl) u
  refine bodyPost_ret (v:=bkV d p (.slice a4 n4 c4)) sR rfl ⟨a4,c4,by rw[<- HN4.out,hP],?_,?_⟩
  ·rw[hP];exact aS0 (ac0 H5.out.1 HSz2.out) (((FS _ _ _).trans (FS _ _ _) nI).trans (FS _ _ _) nI) (fun g hg e=>by
    have:=(aW0 H5.out.1 hg).1;have:=HF2.out.1.size;have:=HSz.out;omega)
  ·have hs:=HSz.out;exact (((HF1.out.trans H5.out.2 nI).an0 oM _).an0 oM _).an0 oM _
theorem cQ0 (h:dn0 d p es)(f:Bt->Bool):dn0 d p (es.filter f):=
 ⟨nT (lD9 _ _) h.1,List.Pairwise.sublist List.filter_sublist h.2.1,fun x hx=>h.2.2 x (mb9.1 hx).1⟩
theorem ng0 (h:dn0 d p es)(i:Nat):dn0 d p (es.eraseIdx i):=
 ⟨nT (List.length_eraseIdx_le _ _) h.1,List.Pairwise.sublist (List.eraseIdx_sublist _ _) h.2.1,fun x hx=>h.2.2 x (List.mem_of_mem_eraseIdx hx)⟩
variable {x:Bt}
theorem pE0 (hs:aa0 es)(hn:hasB es x.hash=false):aa0 (hZ0 es (plI es x.hash) x):=by
 obtain⟨k,hk⟩:=eX (plI es x.hash)
 have h1:∀ y ∈ es.take k,y.hash<x.hash:=fun y hy=>by
  obtain⟨i,hi⟩:=lC9.1 hy;rw[gT] at hi;split at hi
  ·exact (ik0 hs hi).1 oM
  ·cases hi
 have h2:∀ y ∈ es.drop k,x.hash<y.hash:=fun y hy=>by
  obtain⟨i,hi⟩:=lC9.1 hy;rw[lB9] at hi;have hn1:¬ y.hash<x.hash:=fun h=>by have:=(ik0 hs hi).2 h;omega
  have hn2:y.hash≠x.hash:=fun h=>by
   have:hasB es x.hash=true:=by
    unfold hasB;rw[md9];exact⟨y,gM hi,by simp[h]⟩
   rw[hn] at this;cases this
  omega
 rw[hk];unfold hZ0 aa0;rw[List.pairwise_append];refine⟨List.Pairwise.sublist (List.take_sublist _ _) hs,na9.2 ⟨h2,List.Pairwise.sublist (List.drop_sublist _ _) hs⟩,fun a ha b hb=>?_⟩;rcases lA9.1 hb with rfl|hb
 ·exact h1 a ha
 ·exact Nat.lt_trans (h1 a ha) (h2 b hb)
theorem pD0 {y:Bt}(hs:aa0 es)(hy:es[k]?=some y)(he:y.hash=x.hash):aa0 (es.set k x):=by
 have hk:=(gI.1 hy).1;refine lO9.2 fun i j hi hj hij=>?_
 simp only[lx9] at hi hj;have key:∀ (m:Nat) (hm:m<(es.set k x).length) (hm':m<es.length),(es.set k x)[m].hash=es[m].hash:=fun m hm hm'=>by
  rw[List.getElem_set];split
  ·rename_i e;subst e;rw[gE hk] at hy;cases hy;exact he.symm
  ·rfl
 rw[key i (by simpa using hi) hi,key j (by simpa using hj) hj];exact lO9.1 hs i j hi hj hij
theorem qZ0 (h:dn0 d p es)(hr:bJ0 es x.hash 3=true)(hg:gA0 x)(hp:aY0 x.hash d=p):dn0 d p (bK0 es x):=by
 unfold bK0;cases hb:hasB es x.hash with
 | true =>
  rw[if_pos rfl];obtain⟨y,hy,he⟩:=(bB0 h.2.1).1 hb;refine⟨by rw[lx9];exact h.1,pD0 h.2.1 hy he,fun z hz=>?_⟩;rcases mm9 hz with hz|rfl
  ·exact h.2.2 z hz
  ·exact⟨hg,hp⟩
 | false =>
  rw[if_neg dC];have hl:es.length<3:=by
   unfold bJ0 at hr;rw[hb] at hr;simpa using hr
  refine⟨by rw[gq0 (ot0 _ _)];omega,pE0 h.2.1 hb,fun z hz=>?_⟩;unfold hZ0 at hz;rcases lb9.1 hz with hz|hz
  ·exact h.2.2 z (lR9 hz)
  ·rcases lA9.1 hz with rfl|hz
   ·exact⟨hg,hp⟩
   ·exact h.2.2 z (ml9 hz)
theorem eH0 {h:Nat}(hd:d<20)(hh:h<18446744073709551616):aY0 h (d+1)/2=aY0 h d:=by
 have:=ij0 (h:=h) (g:=d+1) (d:=d) oM oM hh;rwa [show d+1-d=1 by omega,Nat.pow_one] at this
theorem eY0 (h:dn0 d p es)(hd:d<20):dn0 (d+1) (2*p) (es.filter fun x=>!be0 d x)/\dn0 (d+1) (2*p+1) (es.filter (be0 d)):=by
 refine⟨⟨(cQ0 h _).1,(cQ0 h _).2.1,fun x hx=>?_⟩,⟨(cQ0 h _).1,(cQ0 h _).2.1,fun x hx=>?_⟩⟩
 ·obtain⟨hx1,hx2⟩:=mb9.1 hx;obtain⟨hg,hp⟩:=h.2.2 x hx1;have h1:=eH0 hd hg.1;simp[be0] at hx2;exact⟨hg,oM⟩
 ·obtain⟨hx1,hx2⟩:=mb9.1 hx;obtain⟨hg,hp⟩:=h.2.2 x hx1;have h1:=eH0 hd hg.1;simp[be0] at hx2;exact⟨hg,oM⟩
def bare:Tr->Tr
 | .leaf _ es=>.leaf (0,0) es
 | .node l r=>.node (bare l) (bare r)
theorem bq0:∀ t:Tr,(bare t).high=t.high
 | .leaf _ _=>rfl
 | .node l r=>by simp only[bare,Tr.high,bq0 l,bq0 r]
theorem gS0:∀ (t:Tr) (g k d p:Nat),(bare t).at_ g k d p=((t.at_ g k d p).1,(t.at_ g k d p).2.1,(0,0),(t.at_ g k d p).2.2.2)
 | .leaf _ _,_,_,_,_=>rfl
 | .node l r,g,k,d,p=>by
  simp only[bare,Tr.at_];split
  ·exact gS0 l _ _ _ _
  ·exact gS0 r _ _ _ _
theorem cA0 (f f':Rf->List Bt->Tr)(hf:∀ r es,bare (f r es)=f' (0,0) es):∀ (t:Tr) (g k:Nat),bare (t.put g k f)=(bare t).put g k f'
 | .leaf r es,g,k=>hf r es
 | .node l r,g,k=>by
  simp only[bare,Tr.put];split
  ·simp only[bare];rw[cA0 f f' hf l]
  ·simp only[bare];rw[cA0 f f' hf r]
structure ea0 where
 t:Tr
 g:Nat
 sp:Int
 lost:Bool
def aG0 (es:List Bt)(h:Nat)(oldest:Int):List Bt:=if bJ0 es h 3=true then es else es.filter (ak0 oldest)
def iz0 (es:List Bt):Rf->List Bt->Tr:=fun _ _=>.leaf (0,0) es
def dW0 (d:Nat)(es:List Bt):Rf->List Bt->Tr:=fun _ _=>.node (.leaf (0,0) (es.filter fun x=>!be0 d x)) (.leaf (0,0) (es.filter (be0 d)))
def gj0:Nat->Tr->Nat->Int->Bt->Int->ea0
 | 0,t,g,sp,_,_=>⟨t,g,sp,false⟩
 | n+1,t,g,sp,y,oldest =>
  let b:=t.at_ g (aY0 y.hash g) 0 0
  let es:=aG0 b.2.2.2 y.hash oldest
  if bJ0 es y.hash 3=true then ⟨t.put g (aY0 y.hash g) (iz0 (bK0 es y)),g,sp,false⟩
  else if b.1<3 then
   if b.1=g then gj0 n (t.put (g+1) (2*aY0 y.hash g) (dW0 b.1 es)) (g+1) (sp+1) y oldest
   else gj0 n (t.put g (aY0 y.hash g) (dW0 b.1 es)) g (sp+1) y oldest
  else ⟨t.put g (aY0 y.hash g) (iz0 (bK0 (es.eraseIdx (dm0 es es.length).toNat) y)),g,sp,true⟩

/- A pack of texts. Conditions: those that each names. -/
import Derived.Test.YtgdhaaokolfdoaaGreatDoorNBA
import Derived.Lib.AppendZerosOnto
import Derived.Lib.Overlaps
set_option maxHeartbeats 16000000
set_option maxRecDepth 100000
set_option linter.all false
namespace Go.Proofs.YtgdhaaokolfdoaaGreatDoor
section
open Go.Proofs Go.RowKit Go.Sg Go.Shelf CP SF
attribute [local go_sem] Oper.semAt_some
theorem si0 {n:Nat}{R:Ending->World->Prop}{tmps:Array Value}{DD b:Nat}{W:World}{bb:Bool}(q1:W.heap[b]?=some (.cells #[.bool bb] 4))
  (hK:W.heap[DD]?=some (.deferred (some []))) (hD:b<DD) (hR:R (.returned (.bool bb)) (W.putObj DD (.deferred none))) (t4:tmps.getD 4 undef = .pointer (some ⟨b,0,none⟩)) :
  bodyPostM Fence.wide n Tryz.prog Tryz.f190 R .ret { tmps:=tmps,defers:=[{ target:=.collected DD,args:=#[] }] } W:=by
 have e1:(W.putObj DD (.deferred none)).cell? ⟨b,0,none⟩=some (.bool bb):=by
  have:=coh ((hpj W DD (.deferred none) b oM).trans q1) 0;simpa using this
 refine⟨by simp,.inl ⟨_,_,rfl,run_takeDeferred hK,_,?_,hR⟩⟩;rw[mk9] at t4;simp[results,Tryz.results190,go_sem,t4,e1]
theorem gP0 {w:World}{v:Value}{es:List Bt}(hE:bm0 w 0 v es)(hso:aa0 es)(d p sl:Nat)(hd:d<=8)(hp:p<2^d)(h1:1<=sl)(h2:sl<=255)(hl:es.length<=sl)(hx:∀ x ∈ es,x.hash<18446744073709551616) :
  Calls Tryz.prog 190 #[bkV d p v,.int .i64 sl] w (ec0 (.bool (!es.any (dA0 d p))) w):=by
 refine (callsIn_wide (n:=10)).1 ?_;obtain⟨va,vc,rfl,-,-,-,-⟩:=oSl hE;obtain⟨n,hn⟩:=eX es.length
 obtain⟨w1,hw1⟩:=eX ((w.alloc (.cells #[.int .i64 d,.int .i64 p,.slice va n vc] 129)).alloc (.cells #[.bool false] 4))
 obtain⟨b2,b4,F1⟩:=ai0 hw1;have s1:w1.heap.size=w.heap.size+2:=by rw[<- hw1];simp
 obtain⟨c0,c1,c2,cz,cl⟩:=cells3 b2;have HW1:=hid hw1;have hE1:=oN hE F1;have HE:=hid hE1;have hd1:decide (sl<1)=false:=by simp;omega
 have hd1':decide ((sl:Int)<1)=false:=by simp;omega
 have hd2:decide (255<sl)=false:=by simp;omega
 have hd2':decide ((255:Int)<(sl:Int))=false:=by simp;omega
 have hd3:decide (sl<n)=false:=by simp;omega
 have hd3':decide ((sl:Int)<(n:Int))=false:=by simp;omega
 have hd4:decide ((p:Int)<0)=false:=by simp
 have HWi:=hid (show Calls Tryz.prog 241 #[.int .i64 d,.int .i64 8] w1 (kV0 true w1) by
  have:=dq0 d 8 w1;rw[show (decide (0<=(d:Int)) && decide ((d:Int)<=8))=true by simp;omega] at this;exact this)
 have hshr:(p:Int)/2^d=0:=by
  have:p/2^d=0:=mu9 hp;have e:((p:Int)/2^d)=((p/2^d:Nat):Int):=by simp
  rw[e,this];rfl
 have HP:=hi2 hso (aI hx (aI hn (aI b2 (aI b4 (aI F1 s1)))));have hn9:n<=255:=oM
 have hPr:=hid (fun V=>rF0 d p va n vc V);rw[hn];clear hE hso hx hn hl hw1 b2 b4 F1 s1 hE1 hp;refine callsIn_of_wp_marks Tryz.func190 rfl trivial ?_ rfl;simp only[Tryz.ntmps190,zA,lC,lz9,Nat.reduceAdd,Nat.reduceSub,lq9,lr9,ly9,ls9,le9,lo9];gi_wp2_with (fail)
 rw[HW1.out];gi_wp2_with (fail)
 refine (callsIn_wide.2 HWi.out).mono ?_;rintro e _ ⟨rfl,rfl⟩;gi_wp2_with (fail)
 refine (callsIn_wide.2 (hPr.out _)).mono ?_;rintro e _ ⟨rfl,rfl⟩;gi_wp2_with (fail)
 obtain⟨W0,hW0⟩:=eX (w1.alloc (.cells #[.int .i64 d,.int .i64 p,.slice va n vc] 129))
 have F0:Fq w1 W0:=by rw[<- hW0];exact (Fr.refl _ _).alloc _
 have bI:W0.heap[w1.heap.size]?=some (.cells #[.int .i64 d,.int .i64 p,.slice va n vc] 129):=by rw[<- hW0];exact han _ _
 have hs0:W0.heap.size=w1.heap.size+1:=by rw[<- hW0];simp
 rw[hW0];have hw0:w.heap.size+2<=W0.heap.size:=by rw[hs0,HP.out.2.2.2.2.2.2];omega
 have g2:=F0.heap HP.out.2.2.2.1 id;have g4:=F0.heap HP.out.2.2.2.2.1 id;have hE0:bm0 W0 0 (.slice va n vc) es:=by
  have:=oN HE.out F0;rw[HP.out.2.2.1] at this;show W0.ownsRow 0 118 4 (.slice va n vc) es.length _;rw[HP.out.2.2.1];exact this
 clear c0 c1 c2 cz cl;refine dP0 (F:=Fence.wide) rfl oM (gf:=273) (lb:=#[.pointer (some ⟨w1.heap.size,0,none⟩)]) rfl trivial (enters_of Tryz.func273 kF rfl)
  (fun pre W=>(W.heap[w.heap.size]?=some (.cells #[.int .i64 d,.int .i64 p,.slice va n vc] 129)/\W.heap[w.heap.size+1]?=some (.cells #[.bool false] 4))/\Fq W0 W)
  (nz0 (w:=W0) bI hE0 (by rw[HP.out.2.2.1];exact hn9) HP.out.1)
  (fun h k=>h.trans k) (fun W l o o' hl _ _ _=>⟨by rw[iX0];exact nR _,fun b hb=>hpj _ _ _ _ oM⟩) (Below.refl _ _) (fun _=>rfl)
  (fun _ _ _=>False)
  (aZ0 (aZ0 (aN0 _ _ _ (fun _=>.inl rfl)) (aN0 _ _ _ (fun _=>.inl rfl))) (dU0 (nR _))) (fun _ _ _ _ _ h _ _=>h.elim) ⟨⟨g2,g4⟩,Fr.refl _ _⟩
  (fun z a' W=>∃ Bx By:Nat,((W.heap[Bx]?=some (.cells #[.int .u64 z.1.hash,.int .i64 z.1.rg,.int .i64 z.1.at_,.int .i64 z.1.sz] 118)/\W.heap[By]?=some (.cells #[.int .u64 z.2.hash,.int .i64 z.2.rg,.int .i64 z.2.at_,.int .i64 z.2.sz] 118))/\z.1.hash<z.2.hash)/\a'={ tmps:=#[bkV (d:Int) (p:Int) (.slice va n vc),.int .i64 sl,.pointer (some ⟨w.heap.size,0,none⟩),undef,.pointer (some ⟨w.heap.size+1,0,none⟩),.pointer (some ⟨Bx,0,none⟩),.pointer (some ⟨By,0,none⟩),.int .i64 sl,.bool false,.bool false,.int .i64 sl,.bool false,.bool false,.bool false,.pointer (some ⟨w.heap.size,2,none⟩),.slice va n vc,.int .i64 n,.int .i64 sl,.bool false,.bool false,.bool false,.pointer (some ⟨w.heap.size,0,none⟩),.int .i64 d,.bool true,.bool false,.bool false,.bool false,.pointer (some ⟨w.heap.size,1,none⟩),.int .i64 p,.bool false,.bool false,.bool false,.pointer (some ⟨w.heap.size,1,none⟩),.int .i64 p,.pointer (some ⟨w.heap.size,0,none⟩),.int .i64 d,.int .i64 0,.bool false,.bool false,.agg #[.int .i64 d,.int .i64 p,.slice va n vc],.func (Fn.func 273) #[] #[.pointer (some ⟨w1.heap.size,0,none⟩)],btV z.1,btV z.2,undef,undef,undef,undef,undef,undef,undef,undef,undef,undef],defers:=[] })
  (fun z a'=>eL0 fun Bx=>eL0 fun By=>aZ0 (aZ0 (aZ0 (aN0 _ _ _ (fun _=>.inl rfl)) (aN0 _ _ _ (fun _=>.inl rfl))) (aJ0 _ _)) (aJ0 _ _))
  ?assign ?body ?done ?stop
 case assign =>
  rintro lp pre ⟨z1,z2⟩ W K' hI hT hK;have FN:Fq W ((W.alloc (.cells #[.int .u64 z1.hash,.int .i64 z1.rg,.int .i64 z1.at_,.int .i64 z1.sz] 118)).alloc (.cells #[.int .u64 z2.hash,.int .i64 z2.rg,.int .i64 z2.at_,.int .i64 z2.sz] 118)):=((Fr.refl _ _).alloc _).alloc _;have hsW:W0.heap.size<=W.heap.size:=hI.2.size;have HI:=hi2 hI hT;have HK:=hid hK;have HFN:=hid FN;clear hI hT hK bI hE0 g2 g4 FN;gi_wp2
  obtain⟨⟨⟨h1,h2⟩,hF⟩,hT⟩:=HI.out;have FN:=HFN.out;refine HK.out _ _ (((KeepsOthers.alloc _ _).trans (KeepsOthers.alloc _ _)).from _) ⟨FN.size,fun b hb=>FN.block b oM id⟩ ⟨⟨FN.heap h1 id,FN.heap h2 id⟩,hF.trans FN nI⟩ ⟨W.heap.size,W.heap.size+1,⟨⟨(am0 _ _ _ sP).trans (han _ _),by have:=han (W.alloc (.cells #[.int .u64 z1.hash,.int .i64 z1.rg,.int .i64 z1.at_,.int .i64 z1.sz] 118)) (.cells #[.int .u64 z2.hash,.int .i64 z2.rg,.int .i64 z2.at_,.int .i64 z2.sz] 118);simpa using this⟩,hT⟩,rfl⟩
 case body =>
  rintro lp pre ⟨z1,z2⟩ a' W hl ⟨rr,hrr⟩ hI ⟨Bx,By,⟨⟨hb1,hb2⟩,hlt⟩,rfl⟩ hlen;simp only at hb1 hb2 hlt;obtain⟨t0,t1,t2,t3,tz,tl⟩:=ah0 hb1;obtain⟨u0,u1,u2,u3,uz,ul⟩:=ah0 hb2;have hge:decide (z2.hash<=z1.hash)=false:=by simp;omega
  have hge':decide ((z2.hash:Int)<=(z1.hash:Int))=false:=by simp;omega
  have HI:=hid hI;clear hI hb1 hb2 hlt bI hE0 g2 g4 hrr;gi_wp2
  exact⟨KeepsFrom.refl _ _,KpP.refl _ _,HI.out⟩
 case done =>
  rintro D xs W hD hS ⟨⟨h1,h2⟩,hF⟩ hK;obtain⟨c0,c1,c2,cz,cl⟩:=cells3 h1;have HCo:=hid (kG0 (oN hE0 hF) (by rw[HP.out.2.2.1];exact hn9) ⟨w.heap.size,0,none⟩ (dA0 d p) (fun x hx W' FW=>tz0 (FW.heap h1 id) oM x (HP.out.2.1 x hx)));have HD:=hi2 h1 (aI h2 (aI hF hK));clear h1 h2 hF hK hS bI hE0 g2 g4;gi_wp2_with (fail)
  refine (callsIn_wide.2 HCo.out).mono ?_;rintro e W2 ⟨rfl,F2⟩;obtain⟨h1,h2,hF,hK⟩:=HD.out;have h2':=F2.heap h2 id;have d0:=coh h2' 0;have dz:=foh h2' 0;have hK2:=F2.heap hK id;simp at d0;have dl:=loh h2';have HD2:=hi2 h2' (aI F2 hK2);clear h1 h2 hF hK F2 h2' hK2 c0 c1 c2 cz cl;gi_wp2_with (fail)
  obtain⟨h2',F2,hK2⟩:=HD2.out;have hFw:Fq w W2:=((HP.out.2.2.2.2.2.1.trans F0 nI).trans HD.out.2.2.1 nI).trans F2 nI;refine si0 (bb:=!es.any (dA0 d p)) (b:=w.heap.size+1) (by rw[hsc _ _ _ _ h2'];rfl) ((ao0 _ _ _ _ (by show w.heap.size+1≠D;omega)).trans hK2) oM ⟨rfl,?_⟩ rfl;exact ((hFw.an0 oM _)).putObj (fun hh=>oM) _
 case stop=>exact fun _ _ _ _ _ _ h=>h.elim
end
section
open Go.RowKit Go.Sg Go.Sg.Bits Go.Sg.Clk CP SF
abbrev eh0 (r:Rf)(d p:Int)(v:Value):Value:=.agg #[.int .i64 r.1,.int .i64 r.2,.int .i64 d,.int .i64 p,v]
def yb0 (B:Blk)(bx bd:Nat)(y:Cs)(P:aC0)(a:Bool)(N:Nat)(x:aL0)(au0 slots:List Rf)(L:List Bp)(sp:Int)(r:Rf)(d p:Nat)(es:List Bt)(w:World)(e:Ending)(w':World):Prop:=
 ∃ (r1:Rf) (d1 p1:Int) (va:Option Addr) (n vc:Nat) (err:Int),e = .returned (.tuple #[eh0 r1 d1 p1 (.slice va n vc),.int .i64 err])/\FrB B w w' /\
  ((err=0/\(r1=r/\d1=d/\p1=p/\n=es.length)/\bm0 w' w.heap.size (.slice va es.length vc) es/\aD0 w' B bx bd y P a N x au0 slots L sp)\/(err=4/\a=true/\aP0 w' B y P N))
variable {N bd bx d p:Nat}{es:List Bt}{w:World}{v:Value}{a:Bool}{sp:Int}
theorem nu0 (h:dn0 d p es):es.any (dA0 d p)=false:=by
 rw[mt9];intro x hx;obtain⟨⟨g0,g1,g2,g3⟩,hp⟩:=h.2.2 x hx;simp only[dA0,aM0,hp];simp;omega
theorem gh0 (hE:bm0 w 0 v es)(h:dn0 d p es)(hd:d<=8)(hp:p<2^d):Calls Tryz.prog 190 #[bkV d p v,.int .i64 3] w (ec0 (.bool true) w):=by
 have:=gP0 hE h.2.1 d p 3 hd hp dC dC h.1 (fun x hx=>(h.2.2 x hx).1.1);rw[nu0 h] at this;exact this
def zk0 (W:World)(b:Nat)(u0 u1 u2 u3 u4:Value):World:=((((W.setCell ⟨b,0,none⟩ u0).setCell ⟨b,1,none⟩ u1).setCell ⟨b,2,none⟩ u2).setCell ⟨b,3,none⟩ u3).setCell ⟨b,4,none⟩ u4
theorem aT0 (W:World)(b:Nat)(u0 u1 u2 u3 u4:Value):Fr (fun k=>k=b) W (zk0 W b u0 u1 u2 u3 u4):=
 (((((Fr.refl (fun k=>k=b) W).setCell (a:=⟨b,_,none⟩) (fun _=>rfl) _).setCell (a:=⟨b,_,none⟩) (fun _=>rfl) _).setCell (a:=⟨b,_,none⟩) (fun _=>rfl) _).setCell (a:=⟨b,_,none⟩) (fun _=>rfl) _).setCell (a:=⟨b,_,none⟩) (fun _=>rfl) _
variable {B:Blk}{y:Cs}{P:aC0}{x:aL0}{slots au0:List Rf}{L:List Bp}
theorem aD0.an0 {W:World}{b:Nat}{c:Array Value}{t:TypeId}(h:aD0 w B bx bd y P a N x au0 slots L sp)(F:Fr (fun k=>k=b) w W)(hb:w.heap[b]?=some (.cells c t))(ht:t ∉ 5 :: 227 :: 209 :: em0)(h0:0<b):aD0 W B bx bd y P a N x au0 slots L sp:=
 { h with
  st:=h.st.frL F hb (fun hm=>ht (by simp only[lA9] at hm ⊢;rcases hm with hm|hm <;> simp[hm])) h0
  idx:=F.heap h.idx (fun e=>by have h1:=h.idx;unfold cn0 at h1;rw[e,hb] at h1;cases h1;exact ht sP)
  dir:=F.heap h.dir (fun e=>by have h1:=h.dir;unfold aj0 at h1;rw[e,hb] at h1;cases h1;exact ht sP) }
variable {r:Rf}
theorem fm0 (h:aD0 w B bx bd y P a N x au0 slots L sp)(hq:(r,aA0 d p es) ∈ L)(hk:dn0 d p es)(hd:d<=8)(hp:p<2^d)(hN:N+1<=90000) :
  Calls Tryz.prog 192 #[cG0 bx,fT0 r.1 r.2] w (yb0 B bx bd y P a (N+1) x au0 slots L sp r d p es w):=by
 obtain⟨w1,hw1⟩:=eX ((w.alloc (.cells #[.int .i64 r.1,.int .i64 r.2] 35)).alloc (.cells #[.int .i64 0,.int .i64 0,.int .i64 0,.int .i64 0,.slice none 0 0] 131))
 obtain⟨b3,b4,F1⟩:=ai0 hw1;have hs1:w1.heap.size=w.heap.size+2:=by rw[<- hw1];simp
 have hrr:=h.bk _ hq;have HRD:=hid (fun W (F:Fq w1 W)=>om0 ((h.st.fr0 F1).fr0 F) r.1 r.2 hrr.1.1 hrr.1.2.2.1 hrr.2 hN);have HB:=hid (fun W (F:FrB B w1 W)=>aI (cells2 (FrB.heap F b3 dC)) (aI (cells5 (bA0 (F1.heap h.idx id:cn0 w1 bx B.s bd 3 3 sp) F)) (cells5 (FrB.heap F b4 dC))));have HB4:=hid (fun W (F:FrB B w1 W)=>FrB.heap F b4 dC);have hp20:p<1048576:=nLL hp (nT (lc9 dC hd) dC);obtain⟨⟨c0,c1,cz,cl⟩,⟨i0,i1,i2,i3,i4,iz,il⟩,-⟩:=HB.out _ (FrB.refl _ _);have H1:=hi2 h (aI F1 hs1);have HK:=hid hk;have HW:=hid hw1;have FG:Fq w1 w1.drew:=(Fr.refl _ _).drew;clear h hw1 b3 b4 F1 hs1 hrr hq hk;go_enter Tryz.func192,Tryz.ntmps192;go_upto_region 1 with fail
 rw[HW.out];refine wp_region_noPanic ?_;refine aq0 (fun V=>FrB B w1 V) (.rd 0 (.rd 1 (.rd 2 (.rd 3 (.rd 4 (.op 5 (.rd 6 (.rd 7 (.rd 8 (.rd 9 (.rd 10 .done))))))))))) kF kF kF (fun _ _ _ _ _ h=>h) (FrB.none FG) ?_;iterate 5
  try simp only[Act.put,sI,sZ,sS]
  refine ay0 _ ?_ gF rF ?_ ?_;rotate_left
  ·intro V hV;obtain⟨⟨c0,c1,cz,cl⟩,⟨i0,i1,i2,i3,i4,iz,il⟩,-⟩:=HB.out V hV;go_simp;try with_reducible rfl
 try simp only[Act.put,sI,sZ,sS]
 refine az0 _ gF rF (fun K hK=>?_);go_simp;refine (HRD.out _ FG).mono ?_;rintro _ V2 ⟨la,ll,lc,err,rfl,F2,hr⟩;have FG2:FrB B w1 V2:=FrB.trans (FrB.none FG) F2;have H2:=hi2 FG2 hr;try go_simp
 refine hK _ _ FG2 ?_;clear hK K F2 hr FG2;iterate 5
  try simp only[Act.put,sI,sZ,sS]
  refine ay0 _ ?_ gF rF ?_ ?_;rotate_left
  ·intro V hV;go_simp;try with_reducible rfl
 try simp only[Act.put,sI,sZ,sS]
 refine ar0 ?_;refine NoPanic.normal ?_;clear FG;rcases H2.out.2 with⟨rfl,rfl,hb,hS⟩|⟨rfl,ha,hDn⟩
 ·have hll:=rG0 d p es;rw[hll] at hb ⊢;have HUn:=hid (sE0 (sl:=3) hb rfl (by have:=HK.out.1;omega) (fun z hz=>(HK.out.2.2 z hz).1) oM hp20 (fun W v hE=>gh0 hE HK.out hd hp));have HS:=hi2 hS H2.out.1;clear hb hS hll c0 c1 cz cl i0 i1 i2 i3 i4 iz il;obtain⟨⟨c0,c1,cz,cl⟩,⟨i0,i1,i2,i3,i4,iz,il⟩,⟨o0,o1,o2,o3,o4,oz,ol⟩⟩:=HB.out V2 HS.out.2;go_wp2_with fail
  refine HUn.out.mono ?_;rintro e W3 ⟨va,vc,rfl,hown,F3⟩;obtain⟨n,hn⟩:=eX es.length
  have HN:=hid hn;rw[hn];have H3:=hi2 hown F3;have hs3:w.heap.size+2<=W3.heap.size:=by have:=HS.out.2.size;have:=F3.size;have:=H1.out.2.2;omega
  clear c0 c1 cz cl i0 i1 i2 i3 i4 iz il o0 o1 o2 o3 o4 oz ol;obtain⟨⟨c0,c1,cz,cl⟩,-,⟨o0,o1,o2,o3,o4,oz,ol⟩⟩:=HB.out W3 (FrB.trans HS.out.2 (FrB.none F3));clear hown F3 hn;go_wp2_with fail
  refine bodyPost_ret (v:=.tuple #[eh0 r d p (.slice va n vc),.int .i64 0]) sR rfl ⟨r,d,p,va,n,vc,0,rfl,?_,.inl ⟨rfl,⟨rfl,rfl,rfl,HN.out.symm⟩,?_,?_⟩⟩
  ·exact (FrB.trans (FrB.none H1.out.2.1) (FrB.trans HS.out.2 (FrB.none H3.out.2))).trans' ((aT0 W3 (w.heap.size+1) _ _ _ _ _).alloc _) (fun b hb e=>oM)
  ·have hv2:w.heap.size+2<=V2.heap.size:=by have:=HS.out.2.size;have:=H1.out.2.2;omega
   exact oN (aS0 (ac0 H3.out.1 oM) (aT0 W3 (w.heap.size+1) _ _ _ _ _) (fun g hg e=>by
    have:=(aW0 H3.out.1 hg).1;omega)) ((Fr.refl _ _).alloc _)
  ·have h3:=((H1.out.1.fr0 H1.out.2.1).frB HS.out.2 HS.out.1).fr0 H3.out.2;exact (h3.an0 (aT0 W3 (w.heap.size+1) _ _ _ _ _) (HB4.out W3 (FrB.trans HS.out.2 (FrB.none H3.out.2))) dC oM).fr0 ((Fr.refl _ _).alloc _)
 ·have HX:=hi2 ha (aI hDn H2.out.1);clear hDn ha;have hs3:w.heap.size+2<=V2.heap.size:=by have:=H2.out.1.size;have:=H1.out.2.2;omega
  clear c0 c1 cz cl i0 i1 i2 i3 i4 iz il;obtain⟨-,-,⟨o0,o1,o2,o3,o4,oz,ol⟩⟩:=HB.out V2 H2.out.1;go_wp2_with fail
  refine bodyPost_ret (v:=.tuple #[eh0 (0,0) 0 0 (.slice none 0 0),.int .i64 4]) sR rfl ⟨(0,0),0,0,none,0,0,4,rfl,?_,.inr ⟨rfl,HX.out.1,?_⟩⟩
  ·exact (FrB.trans (FrB.none H1.out.2.1) HX.out.2.2).trans' (aT0 V2 (w.heap.size+1) _ _ _ _ _) (fun b hb e=>oM)
  ·exact HX.out.2.1.frL (aT0 V2 (w.heap.size+1) _ _ _ _ _) (HB4.out V2 HX.out.2.2) dC
def zG0 (B:Blk)(bx bd:Nat)(y:Cs)(P:aC0)(a:Bool)(N:Nat)(depth:Nat)(slots:List Rf)(S:List Nat)(L:List Bp)(j:Nat)(ld:List Int)(sp:Int)(w:World)(e:Ending)(w':World):Prop:=
 ∃ err,e = .returned (.int .i64 err)/\FrX B (fun b=>b=bd) w w'/\((err=0/\∃ (m:Nat) (y':Cs) (x':aL0) (tops':List Rf),aD0 w' B bx bd y' P a N x' tops' (bQ0 slots S ((m:Int),(y.gen:Int))) (L.set j (((m:Int),(y.gen:Int)),ld)) sp/\x'.depth=depth/\(Like y y'/\y'.gen=y.gen/\y'.dead=y.dead))\/(err=4/\a=true/\aP0 w' B y P N))
def wv0 (B:Blk)(bx bd:Nat)(y:Cs)(P:aC0)(a:Bool)(N:Nat)(x:aL0)(au0 slots:List Rf)(L:List Bp)(sp:Int)(j:Nat)(ld:List Int)(p3 s3 err:Int)(V:World):Prop:=
 (err=0/\∃ m:Nat,p3=(m:Int)/\s3=(y.gen:Int)/\∃ y',aD0 V B bx bd y' P a N x au0 slots (L.set j (((m:Int),(y.gen:Int)),ld)) sp/\(Like y y'/\y'.gen=y.gen/\y'.dead=y.dead))\/(err=4/\a=true/\aP0 V B y P N)
theorem nP0 (p s q t:Int)(w:World):(binOp .eql 35 (fT0 p s) (fT0 q t)).run Tryz.prog w = .ok (.bool (decide (p=q) && decide (s=t))) w:=by
 have h:Tryz.prog.underlying 35=_:=Tryz.underlying35;go_simp;by_cases h1:p=q <;> by_cases h2:s=t <;> simp[h1,h2]
section
variable {B:Blk}{bx bd:Nat}{y:Cs}{P:aQ0}{a:Bool}{N:Nat}{x:aL0}{au0 slots:List Rf}{L:List Bp}{sp:Int}{j:Nat}{ld:List Int}{p3 s3 err:Int}{V V':World}
theorem rj0 {r:Rf}{ld0:List Int}(h:aD0 V B bx bd y P a N x au0 slots L sp)(hj:L[j]?=some (r,ld0))(F:FrB B V V')
  (hr:(err=0/\(∃ m:Nat,p3=m/\s3=y.gen/\(y.fresh r.1.toNat=true/\m=r.1.toNat\/y.fresh r.1.toNat=false/\br0 y.taken y.pages y.hand m)/\aw0 V' B (y.put r.1.toNat m ld) P a (N+1)))\/(err=4/\a=true/\aP0 V' B y P (N+1))):wv0 B bx bd y P a (N+1) x au0 slots L sp j ld p3 s3 err V':=by
 rcases hr with⟨rfl,m,rfl,rfl,hm,hS⟩|hr
 ·exact .inl ⟨rfl,m,rfl,rfl,_,h.qj0 hj hm F hS,dJ0 y r.1.toNat m ld⟩
 ·exact .inr hr
theorem wv0.fr0 (h:wv0 B bx bd y P a N x au0 slots L sp j ld p3 s3 err V)(F:Fq V V'):wv0 B bx bd y P a N x au0 slots L sp j ld p3 s3 err V':=by
 rcases h with⟨rfl,m,h1,h2,y',h3,h4⟩|⟨rfl,ha,hD⟩
 ·exact .inl ⟨rfl,m,h1,h2,y',h3.fr0 F,h4⟩
 ·exact .inr ⟨rfl,ha,hD.fr0 F⟩
theorem wv0.set (h:wv0 B bx bd y P a N x au0 slots L sp j ld p3 s3 err V){b:Nat}{c:Array Value}(F:Fr (fun k=>k=b) V V')(hb:V.heap[b]?=some (.cells c 35))(h0:0<b):wv0 B bx bd y P a N x au0 slots L sp j ld p3 s3 err V':=by
 rcases h with⟨rfl,m,h1,h2,y',h3,h4⟩|⟨rfl,ha,hD⟩
 ·exact .inl ⟨rfl,m,h1,h2,y',h3.an0 F hb dC h0,h4⟩
 ·exact .inr ⟨rfl,ha,hD.frL F hb dC⟩
end
theorem dF0 {P:aQ0}(h:aD0 w B bx bd y P a N x au0 slots L sp){j:Nat}{ld0:List Int}(hj:L[j]?=some (r,ld0))(hE:bm0 w 0 v es)(hk:dn0 d p es)(hd:d<=x.depth)(hp:p<2^d)
  (hsl:∀ i ∈ slN (p*2^(x.depth-d)) (2^(x.depth-d)),slots[i]?=some r) (hN:N+20<=90000) :
  Calls Tryz.prog 137 #[cG0 bx,eh0 r d p v] w (zG0 B bx bd y P a (N+20) x.depth slots (slN (p*2^(x.depth-d)) (2^(x.depth-d))) L j (aA0 d p es) sp w):=by
 obtain⟨va,vc,rfl,-,-,-,-⟩:=oSl hE;obtain⟨n,hn⟩:=eX es.length
 have hdep:=h.small.2.2;have hp20:p<1048576:=nLL hp (nT (lc9 dC (by omega:d<=20)) dC);obtain⟨w1,hw1⟩:=eX (w.alloc (.cells #[.int .i64 r.1,.int .i64 r.2,.int .i64 d,.int .i64 p,.slice va n vc] 131))
 have b3:w1.heap[w.heap.size]?=some (.cells #[.int .i64 r.1,.int .i64 r.2,.int .i64 d,.int .i64 p,.slice va n vc] 131):=by rw[<- hw1];exact han _ _
 have F1:Fq w w1:=by rw[<- hw1];exact (Fr.refl _ _).alloc _
 have HB:=hid (fun (V:World) (F:FrB B w1 V)=>aI (cells5 (FrB.heap F b3 dC)) (cells5 (bA0 (F1.heap h.idx id:cn0 w1 bx B.s bd 3 3 sp) F)));have HPk:=hid (fun V (F:Fq w1 V)=>kp0 (oN (oN hE F1) F) (by have:=hk.1;omega) (fun z hz=>(hk.2.2 z hz).1) d p 3 oM hp20 hk.1 dC (fun W FW=>gh0 (oN (oN (oN hE F1) F) FW) hk oM hp));have hpg:=gM (h.page hj);have htk:=h.lv.tk _ hpg;have hrr:=(h.bk _ (gM hj)).1;have hrn:r.1=(r.1.toNat:Int):=by have:=hrr.1;simp only at this;omega
 have HWr:=hid (fun V la lc (F:Fq w1 V) (hb:ByV V la (10+20*es.length) lc (aA0 d p es))=>by
  have:=iO0 ((h.st.fr0 F1).fr0 F) r.1.toNat r.2 (hb.inp B) (cL0 d p es) (by rw[h.room];have:=hk.1;omega) (h.lv.lt _ hpg) htk.1 htk.2.2 h.free oM;rw[<- hrn] at this;exact this)
 have HN:=hid hn;have H1:=hi2 h (aI F1 (aI hj (aI hsl hrr)));have HDk:=hi2 hd hp;have FG:Fq w1 w1.drew:=(Fr.refl _ _).drew;have HW:=hid hw1;rw[hn] at HPk HWr ⊢;clear h hj hE hk hsl hw1 b3 F1 hpg htk hrr hrn hn hd hp;go_enter Tryz.func137,Tryz.ntmps137;go_upto_region 1 with fail
 rw[HW.out];refine wp_region_noPanic ?_;refine aq0 (fun V=>FrB B w1 V) (.rd 0 (.rd 1 (.rd 2 (.rd 3 (.rd 4 (.rd 5 (.op 6 (.rd 7 (.rd 8 (.rd 9 (.rd 10 (.rd 11 .done)))))))))))) kF kF kF (fun _ _ _ _ _ h=>h) (FrB.none FG) ?_;iterate 6
  try simp only[Act.put,sI,sZ,sS]
  refine ay0 _ ?_ gF rF ?_ ?_;rotate_left
  ·intro V hV;obtain⟨⟨o0,o1,o2,o3,o4,oz,ol⟩,⟨i0,i1,i2,i3,i4,iz,il⟩⟩:=HB.out V hV;go_simp;try with_reducible rfl
 try simp only[Act.put,sI,sZ,sS]
 refine az0 _ gF rF (fun K hK=>?_);go_simp;refine (HPk.out _ FG).mono ?_;rintro _ V2 ⟨la,lc,rfl,hb,F2⟩;have FG2:=FG.trans F2 nI;rw[HN.out] at hb ⊢;have H2:=hi2 hb FG2;try go_simp
 refine hK _ _ (FrB.none FG2) ?_;clear hK K hb F2 FG2;iterate 5
  try simp only[Act.put,sI,sZ,sS]
  refine ay0 _ ?_ gF rF ?_ ?_;rotate_left
  ·intro V hV;go_simp;try with_reducible rfl
 try simp only[Act.put,sI,sZ,sS]
 refine ar0 ?_;refine NoPanic.normal ?_;have HB2:=hid (fun (V:World) (F:FrB B V2 V)=>HB.out V (FrB.trans (FrB.none H2.out.2) F));have FD:Fq V2 V2.drew:=(Fr.refl _ _).drew;clear FG;go_wp2_with fail
 refine wp_region_noPanic ?_;refine aq0 (fun V=>FrB B V2 V) (.rd 0 (.rd 1 (.rd 2 (.rd 3 (.rd 4 (.rd 5 (.rd 6 (.two 7 11 (.rd 8 (.rd 9 (.rd 10 (.op 11 (.op 12 (.rd 13 .done)))))) (.op 7 (.rd 8 (.rd 9 (.rd 10 (.op 12 (.rd 13 .done)))))))))))))) kF kF kF (fun _ _ _ _ _ h=>h) (FrB.none FD) ?_;iterate 7
  try simp only[Act.put,sI,sZ,sS]
  refine ay0 _ ?_ gF rF ?_ ?_;rotate_left
  ·intro V hV;obtain⟨⟨o0,o1,o2,o3,o4,oz,ol⟩,⟨i0,i1,i2,i3,i4,iz,il⟩⟩:=HB2.out V hV;go_simp;try with_reducible rfl
 try simp only[Act.put,sI,sZ,sS]
 refine bn0 ?_ ?_
 ·refine az0 _ gF rF (fun K hK=>?_);go_simp;refine (HWr.out _ la lc (H2.out.2.trans FD nI) (H2.out.1.fr FD (fun _ _ _ h=>h))).mono ?_;rintro _ V3 ⟨p3,s3,err,rfl,F3,hr⟩;have FG3:FrB B V2 V3:=FrB.trans (FrB.none FD) F3;have H3:=hi2 FG3 hr;try go_simp
  refine hK _ _ FG3 ?_;clear hK K F3 hr FG3;iterate 3
   try simp only[Act.put,sI,sZ,sS]
   refine ay0 _ ?_ gF rF ?_ ?_;rotate_left
   ·intro V hV;go_simp;try with_reducible rfl
  try simp only[Act.put,sI,sZ,sS]
  refine az0 _ gF rF (fun K hK=>?_);go_simp;refine hK _ _ (H3.out.1.alloc _) ?_;clear hK K;try simp only[Act.put,sI,sZ,sS]
  refine az0 _ gF rF (fun K hK=>?_);go_simp;obtain⟨b7,hb7⟩:=eX V3.heap.size
  obtain⟨V5,hV5⟩:=eX (V3.alloc (.cells #[.int .i64 p3,.int .i64 s3] 35))
  have F5:Fq V3 V5:=by rw[<- hV5];exact (Fr.refl _ _).alloc _
  have g7:V5.heap[b7]?=some (.cells #[.int .i64 p3,.int .i64 s3] 35):=by rw[<- hV5,<- hb7];exact han V3 _
  have FG5:=FrB.trans H3.out.1 (FrB.none F5);have H5:=hi2 g7 (aI FG5 ((rj0 (H1.out.1.fr0 (H1.out.2.1.trans H2.out.2 nI)) H1.out.2.2.1 H3.out.1 H3.out.2).fr0 F5));rw[hb7,hV5];refine hK _ _ FG5 ?_;clear hK K hV5 F5 g7 FG5;try simp only[Act.put,sI,sZ,sS]
  refine ay0 _ ?_ gF rF ?_ ?_;rotate_left
  ·intro V hV;go_simp;try with_reducible rfl
  try simp only[Act.put,sI,sZ,sS]
  refine ar0 ?_;refine NoPanic.normal ?_;have HEq:=hid (fun W=>nP0 p3 s3 r.1 r.2 W);obtain⟨bq,hbq⟩:=eX ((decide (p3=r.1) && decide (s3=r.2)))
  rw[hbq] at HEq;have heq:=HEq.out;have HBq:=hid hbq;obtain⟨y0,y1,yz,yl⟩:=cells2 H5.out.1;obtain⟨⟨o0,o1,o2,o3,o4,oz,ol⟩,⟨i0,i1,i2,i3,i4,iz,il⟩⟩:=HB2.out V5 H5.out.2.1;clear hbq FD;rcases H5.out.2.2 with⟨rfl,m,rfl,rfl,y',hI,hL⟩|⟨rfl,ha,hDn⟩
  ·have HI:=hi2 hI hL;clear hI hL;cases bq with
   | true =>
    go_wp2_with fail
    go_ret;have hmr:((m:Int),(y.gen:Int))=r:=by
     have:=HBq.out;simp at this;exact Prod.ext this.1 this.2
    refine⟨0,rfl,FrX.of (FrB.trans (FrB.none (H1.out.2.1.trans H2.out.2 nI)) H5.out.2.1),.inl ⟨rfl,m,y',x,au0,?_,rfl,HI.out.2⟩⟩;rw[lS0 (by rw[hmr];exact H1.out.2.2.2.1)];exact HI.out.1.mono oM hN
   | false =>
    have hgl:=bT0 H1.out.1.st;have hml:=HI.out.1.bk _ (gM (by rw[lU9,if_pos rfl,if_pos (gI.1 H1.out.2.2.1).1]:(L.set j (((m:Int),(y.gen:Int)),aA0 d p es))[j]?=some (((m:Int),(y.gen:Int)),aA0 d p es)));have HPo:=hid (fo0 HI.out.1 (r:=((m:Int),(y.gen:Int))) va n vc HDk.out.1 HDk.out.2 hml.1 oM);clear hgl hml;go_wp2_with fail
    refine HPo.out.mono ?_;rintro e V6 ⟨err,rfl,F6,hr6⟩;have H6:=hi2 F6 hr6;clear F6 hr6 y0 y1 yz yl o0 o1 o2 o3 o4 oz ol i0 i1 i2 i3 i4 iz il heq;go_wp2_with fail
    go_ret;refine⟨err,rfl,FrX.trans (FrX.of (FrB.trans (FrB.none (H1.out.2.1.trans H2.out.2 nI)) H5.out.2.1)) H6.out.1,?_⟩;rcases H6.out.2 with⟨rfl,y6,x6,t6,hI6,hx6,hL6⟩|⟨rfl,ha,hDn⟩
    ·exact .inl ⟨rfl,m,y6,x6,t6,hI6.mono oM hN,hx6,HI.out.2.1.trans hL6.1,hL6.2.1.trans HI.out.2.2.1,hL6.2.2.trans HI.out.2.2.2⟩
    ·exact .inr ⟨rfl,ha,aX0 (hDn.mono oM) HI.out.2.1⟩
  ·have HX:=hi2 ha hDn;clear ha hDn;go_wp2_with fail
   go_ret;exact⟨4,rfl,FrX.of (FrB.trans (FrB.none (H1.out.2.1.trans H2.out.2 nI)) H5.out.2.1),.inr ⟨rfl,HX.out.1,HX.out.2.mono oM⟩⟩
 ·refine az0 _ gF rF (fun K hK=>?_);go_simp;obtain⟨b7,hb7⟩:=eX V2.heap.size
  obtain⟨V4,hV4⟩:=eX ((V2.alloc (.cells #[.int .i64 0,.int .i64 0] 35)).drew)
  have F4:Fq V2 V4:=by rw[<- hV4];exact ((Fr.refl _ _).alloc _).drew
  have g7:V4.heap[b7]?=some (.cells #[.int .i64 0,.int .i64 0] 35):=by rw[<- hV4,<- hb7];exact han V2 _
  rw[hb7,hV4];refine hK _ _ (FrB.none F4) ?_;clear hK K hV4;try simp only[Act.put,sI,sZ,sS]
  refine az0 _ gF rF (fun K hK=>?_);go_simp;refine (HWr.out _ la lc (H2.out.2.trans F4 nI) (H2.out.1.fr F4 (fun _ _ _ h=>h))).mono ?_;rintro _ V3 ⟨p3,s3,err,rfl,F3,hr⟩;have FG3:FrB B V2 V3:=FrB.trans (FrB.none F4) F3;have g73:=FrB.heap F3 g7 dC;have H3:=hi2 FG3 hr;try go_simp
  refine hK _ _ FG3 ?_;clear hK K F3 hr FG3;iterate 3
   try simp only[Act.put,sI,sZ,sS]
   refine ay0 _ ?_ gF rF ?_ ?_;rotate_left
   ·intro V hV;go_simp;try with_reducible rfl
  try simp only[Act.put,sI,sZ,sS]
  refine az0 _ gF rF (fun K hK=>?_);obtain⟨y0,y1,yz,yl⟩:=cells2 g73;go_simp;obtain⟨V5,hV5⟩:=eX ((V3.setCell ⟨b7,0,none⟩ (.int .i64 p3)).setCell ⟨b7,1,none⟩ (.int .i64 s3))
  have F5:Fr (fun k=>k=b7) V3 V5:=by rw[<- hV5];exact ((Fr.refl (fun k=>k=b7) V3).setCell (a:=⟨b7,_,none⟩) (fun _=>rfl) _).setCell (a:=⟨b7,_,none⟩) (fun _=>rfl) _
  have g7':V5.heap[b7]?=some (.cells #[.int .i64 p3,.int .i64 s3] 35):=by rw[<- hV5,hsc _ _ _ _ (hsc _ _ _ _ g73)];rfl
  have FG5:FrB B V2 V5:=FrB.trans' H3.out.1 F5 (fun b hb e=>oM);have H5:=hi2 g7' (aI FG5 ((rj0 (H1.out.1.fr0 (H1.out.2.1.trans H2.out.2 nI)) H1.out.2.2.1 H3.out.1 H3.out.2).set F5 g73 (by rw[<- hb7];exact nLL H1.out.1.st.base (nT H1.out.1.st.bs0 (nT H1.out.2.1.size H2.out.2.size)))));rw[hV5];refine hK _ _ FG5 ?_;clear hK K hV5 F5 g7' FG5 y0 y1 yz yl g73 g7;try simp only[Act.put,sI,sZ,sS]
  refine ay0 _ ?_ gF rF ?_ ?_;rotate_left
  ·intro V hV;go_simp;try with_reducible rfl
  try simp only[Act.put,sI,sZ,sS]
  refine ar0 ?_;refine NoPanic.normal ?_;have HEq:=hid (fun W=>nP0 p3 s3 r.1 r.2 W);obtain⟨bq,hbq⟩:=eX ((decide (p3=r.1) && decide (s3=r.2)))
  rw[hbq] at HEq;have heq:=HEq.out;have HBq:=hid hbq;obtain⟨y0,y1,yz,yl⟩:=cells2 H5.out.1;obtain⟨⟨o0,o1,o2,o3,o4,oz,ol⟩,⟨i0,i1,i2,i3,i4,iz,il⟩⟩:=HB2.out V5 H5.out.2.1;clear hbq FD;rcases H5.out.2.2 with⟨rfl,m,rfl,rfl,y',hI,hL⟩|⟨rfl,ha,hDn⟩
  ·have HI:=hi2 hI hL;clear hI hL;cases bq with
   | true =>
    go_wp2_with fail
    go_ret;have hmr:((m:Int),(y.gen:Int))=r:=by
     have:=HBq.out;simp at this;exact Prod.ext this.1 this.2
    refine⟨0,rfl,FrX.of (FrB.trans (FrB.none (H1.out.2.1.trans H2.out.2 nI)) H5.out.2.1),.inl ⟨rfl,m,y',x,au0,?_,rfl,HI.out.2⟩⟩;rw[lS0 (by rw[hmr];exact H1.out.2.2.2.1)];exact HI.out.1.mono oM hN
   | false =>
    have hgl:=bT0 H1.out.1.st;have hml:=HI.out.1.bk _ (gM (by rw[lU9,if_pos rfl,if_pos (gI.1 H1.out.2.2.1).1]:(L.set j (((m:Int),(y.gen:Int)),aA0 d p es))[j]?=some (((m:Int),(y.gen:Int)),aA0 d p es)));have HPo:=hid (fo0 HI.out.1 (r:=((m:Int),(y.gen:Int))) va n vc HDk.out.1 HDk.out.2 hml.1 oM);clear hgl hml;go_wp2_with fail
    refine HPo.out.mono ?_;rintro e V6 ⟨err,rfl,F6,hr6⟩;have H6:=hi2 F6 hr6;clear F6 hr6 y0 y1 yz yl o0 o1 o2 o3 o4 oz ol i0 i1 i2 i3 i4 iz il heq;go_wp2_with fail
    go_ret;refine⟨err,rfl,FrX.trans (FrX.of (FrB.trans (FrB.none (H1.out.2.1.trans H2.out.2 nI)) H5.out.2.1)) H6.out.1,?_⟩;rcases H6.out.2 with⟨rfl,y6,x6,t6,hI6,hx6,hL6⟩|⟨rfl,ha,hDn⟩
    ·exact .inl ⟨rfl,m,y6,x6,t6,hI6.mono oM hN,hx6,HI.out.2.1.trans hL6.1,hL6.2.1.trans HI.out.2.2.1,hL6.2.2.trans HI.out.2.2.2⟩
    ·exact .inr ⟨rfl,ha,aX0 (hDn.mono oM) HI.out.2.1⟩
  ·have HX:=hi2 ha hDn;clear ha hDn;go_wp2_with fail
   go_ret;exact⟨4,rfl,FrX.of (FrB.trans (FrB.none (H1.out.2.1.trans H2.out.2 nI)) H5.out.2.1),.inr ⟨rfl,HX.out.1,HX.out.2.mono oM⟩⟩
def ww0 (B:Blk)(bx bd:Nat)(y:Cs)(P:aC0)(a:Bool)(N:Nat)(x:aL0)(au0 slots:List Rf)(L:List Bp)(sp:Int)(r:Rf)(p3 s3 err:Int)(V:World):Prop:=
 (err=0/\(p3,s3)=r/\aD0 V B bx bd y P a N x au0 slots L sp)\/(err=4/\a=true/\aP0 V B y P N)
section
variable {B:Blk}{bx bd:Nat}{y:Cs}{P:aC0}{a:Bool}{N:Nat}{x:aL0}{au0 slots:List Rf}{L:List Bp}{sp:Int}{r:Rf}{p3 s3 err:Int}{V V':World}{k:Nat}
theorem jG0 (h:aD0 V B bx bd y P a N x au0 slots L sp)(hk:slots[k]?=some r)(F:FrB B V V')(hr:(err=0/\slots[k]?=some (p3,s3)/\aw0 V' B y P a (N+2))\/(err=4/\a=true/\aP0 V' B y P (N+2))):ww0 B bx bd y P a (N+2) x au0 slots L sp r p3 s3 err V':=by
 rcases hr with⟨rfl,h1,hS⟩|hr
 ·exact .inl ⟨rfl,Option.some.inj (h1.symm.trans hk),h.frB F hS⟩
 ·exact .inr hr
theorem ww0.fr0 (h:ww0 B bx bd y P a N x au0 slots L sp r p3 s3 err V)(F:Fq V V'):ww0 B bx bd y P a N x au0 slots L sp r p3 s3 err V':=by
 rcases h with⟨rfl,h1,h3⟩|⟨rfl,ha,hD⟩
 ·exact .inl ⟨rfl,h1,h3.fr0 F⟩
 ·exact .inr ⟨rfl,ha,hD.fr0 F⟩
theorem ww0.set (h:ww0 B bx bd y P a N x au0 slots L sp r p3 s3 err V){b:Nat}{c:Array Value}(F:Fr (fun k=>k=b) V V')(hb:V.heap[b]?=some (.cells c 35))(h0:0<b):ww0 B bx bd y P a N x au0 slots L sp r p3 s3 err V':=by
 rcases h with⟨rfl,h1,h3⟩|⟨rfl,ha,hD⟩
 ·exact .inl ⟨rfl,h1,h3.an0 F hb dC h0⟩
 ·exact .inr ⟨rfl,ha,hD.frL F hb dC⟩
end
theorem tx0 (h:aD0 w B bx bd y P a N x au0 slots L sp){hash:Nat}(hh:hash<18446744073709551616)(hs:slots[aY0 hash x.depth]?=some r)(hq:(r,aA0 d p es) ∈ L)(hk:dn0 d p es)(hd:d<=8)(hp:p<2^d)(hN:N+3<=90000) :
  Calls Tryz.prog 130 #[cG0 bx,.int .u64 hash] w (yb0 B bx bd y P a (N+3) x au0 slots L sp r d p es w):=by
 obtain⟨w1,hw1⟩:=eX (w.alloc (.cells #[.int .i64 0,.int .i64 0,.int .i64 0,.int .i64 0,.slice none 0 0] 131))
 have b4:w1.heap[w.heap.size]?=some (.cells #[.int .i64 0,.int .i64 0,.int .i64 0,.int .i64 0,.slice none 0 0] 131):=by rw[<- hw1];exact han _ _
 have F1:Fq w w1:=by rw[<- hw1];exact (Fr.refl _ _).alloc _
 have hs1:w1.heap.size=w.heap.size+1:=by rw[<- hw1];simp
 have hsm:=h.small;have HB:=hid (fun W (F:FrB B w1 W)=>aI (cells5 (bA0 (F1.heap h.idx id:cn0 w1 bx B.s bd 3 3 sp) F)) (cells5 (FrB.heap F b4 dC)));have HB4:=hid (fun W (F:FrB B w1 W)=>FrB.heap F b4 dC);have HDp:=hid (fun V (F:Fq w1 V)=>eX0 (F.heap (F1.heap h.dir id) id:aj0 V bd B.s x));obtain⟨g,hg⟩:=eX x.depth
 have HPr:=hid (fun V=>ih0 hash g hh oM V);have hsl:aY0 hash x.depth<x.slots:=by rw[<- h.c.slen];exact (gI.1 hs).1
 have HGt:=hid (fun V (F:Fq w1 V)=>yJ0 ((h.st.fr0 F1).fr0 F) (F.heap (F1.heap h.dir id) id:aj0 V bd B.s x) h.c (aY0 hash x.depth) hsl oM);have HQ:=hi2 hq (aI hk hN);obtain⟨⟨i0,i1,i2,i3,i4,iz,il⟩,-⟩:=HB.out _ (FrB.refl _ _);rw[hg] at HDp HGt;obtain⟨kk,hkk⟩:=eX (aY0 hash g)
 rw[hkk] at HPr HGt;rw[hg,hkk] at hs;have H1:=hi2 h (aI F1 (aI hs1 hs));have HW:=hid hw1;have FG:Fq w1 w1.drew:=(Fr.refl _ _).drew;clear h hw1 b4 F1 hs1 hs hq hk hg hsl hkk hsm;go_enter Tryz.func130,Tryz.ntmps130;go_upto_region 1 with fail
 rw[HW.out];refine wp_region_noPanic ?_;refine aq0 (fun V=>FrB B w1 V) (.rd 0 (.rd 1 (.rd 2 (.rd 3 (.rd 4 (.rd 5 (.rd 6 (.rd 7 (.rd 8 (.two 9 15 (.two 10 15 (.two 11 15 (.rd 12 (.rd 13 (.rd 14 (.op 15 (.op 16 (.rd 17 .done)))))) (.op 11 (.rd 12 (.rd 13 (.rd 14 (.op 16 (.rd 17 .done))))))) (.op 10 (.op 11 (.rd 12 (.rd 13 (.rd 14 (.op 16 (.rd 17 .done)))))))) (.op 9 (.op 10 (.op 11 (.rd 12 (.rd 13 (.rd 14 (.op 16 (.rd 17 .done)))))))))))))))))) kF kF kF (fun _ _ _ _ _ h=>h) (FrB.none FG) ?_;iterate 9
  try simp only[Act.put,sI,sZ,sS]
  refine ay0 _ ?_ gF rF ?_ ?_;rotate_left
  ·intro V hV;obtain⟨⟨i0,i1,i2,i3,i4,iz,il⟩,-⟩:=HB.out V hV;go_simp;try with_reducible rfl
 try simp only[Act.put,sI,sZ,sS]
 refine bn0 ?_ ?_
 ·refine az0 _ gF rF (fun K hK=>?_);go_simp;refine (HDp.out _ FG).mono ?_;rintro _ _ ⟨rfl,rfl⟩;try go_simp
  refine hK _ _ (FrB.none FG) ?_;clear hK K;try simp only[Act.put,sI,sZ,sS]
  refine bn0 ?_ ?_
  ·refine az0 _ gF rF (fun K hK=>?_);go_simp;refine (HPr.out _).mono ?_;rintro _ _ ⟨rfl,rfl⟩;try go_simp
   refine hK _ _ (FrB.none FG) ?_;clear hK K;try simp only[Act.put,sI,sZ,sS]
   refine bn0 ?_ ?_
   ·refine az0 _ gF rF (fun K hK=>?_);go_simp;refine (HGt.out _ FG).mono ?_;rintro _ V3 ⟨p3,s3,err,rfl,F3,hr⟩;have FG3:FrB B w1 V3:=FrB.trans (FrB.none FG) F3;have H3:=hi2 FG3 hr;try go_simp
    refine hK _ _ FG3 ?_;clear hK K F3 hr FG3;iterate 3
     try simp only[Act.put,sI,sZ,sS]
     refine ay0 _ ?_ gF rF ?_ ?_;rotate_left
     ·intro V hV;go_simp;try with_reducible rfl
    try simp only[Act.put,sI,sZ,sS]
    refine az0 _ gF rF (fun K hK=>?_);go_simp;refine hK _ _ (H3.out.1.alloc _) ?_;clear hK K;try simp only[Act.put,sI,sZ,sS]
    refine az0 _ gF rF (fun K hK=>?_);go_simp;obtain⟨b6,hb6⟩:=eX V3.heap.size
    obtain⟨V5,hV5⟩:=eX (V3.alloc (.cells #[.int .i64 p3,.int .i64 s3] 35))
    have F5:Fq V3 V5:=(by rw[<- hV5];exact (Fr.refl _ _).alloc _);have g5:V5.heap[b6]?=some (.cells #[.int .i64 p3,.int .i64 s3] 35):=(by rw[<- hV5,<- hb6];exact han V3 _);have FG5:=FrB.trans H3.out.1 (FrB.none F5);have H5:=hi2 g5 (aI FG5 ((jG0 (H1.out.1.fr0 H1.out.2.1) H1.out.2.2.2 H3.out.1 H3.out.2).fr0 F5));rw[hb6,hV5];refine hK _ _ FG5 ?_;clear hK K hV5 F5 g5 FG5;try simp only[Act.put,sI,sZ,sS]
    refine ay0 _ ?_ gF rF ?_ ?_;rotate_left
    ·intro V hV;go_simp;try with_reducible rfl
    try simp only[Act.put,sI,sZ,sS]
    refine ar0 ?_;refine NoPanic.normal ?_;clear FG;obtain⟨y0,y1,yz,yl⟩:=cells2 H5.out.1;obtain⟨⟨i0,i1,i2,i3,i4,iz,il⟩,⟨o0,o1,o2,o3,o4,oz,ol⟩⟩:=HB.out V5 H5.out.2.1;rcases H5.out.2.2 with⟨rfl,he,hI⟩|⟨rfl,ha,hDn⟩
    ·obtain⟨rfl,rfl⟩:p3=r.1/\s3=r.2:=by rw[<- he];exact⟨rfl,rfl⟩
     have HRe:=hid (fm0 hI HQ.out.1 HQ.out.2.1 oM hp oM);clear hI he;go_wp2_with fail
     refine HRe.out.mono ?_;rintro e V6 ⟨r6,d6,p6,va,n6,vc,err,rfl,F6,hr6⟩;have FG6:FrB B w1 V6:=FrB.trans H5.out.2.1 F6;have H6:=hi2 FG6 (aI F6.size hr6);clear y0 y1 yz yl i0 i1 i2 i3 i4 iz il o0 o1 o2 o3 o4 oz ol F6 hr6;obtain⟨-,⟨o0,o1,o2,o3,o4,oz,ol⟩⟩:=HB.out V6 FG6;clear FG6;go_wp2_with fail
     have hs1:=H1.out.2.2.1;have g4:=HB4.out V6 H6.out.1;have hv5:w1.heap.size<=V5.heap.size:=H5.out.2.1.size;refine bodyPost_ret (v:=.tuple #[eh0 r6 d6 p6 (.slice va n6 vc),.int .i64 err]) sR rfl ⟨r6,d6,p6,va,n6,vc,err,rfl,?_,?_⟩
     ·exact (FrB.trans (FrB.none H1.out.2.1) H6.out.1).trans' (aT0 V6 w.heap.size _ _ _ _ _) (fun b hb e=>oM)
     ·rcases H6.out.2.2 with⟨rfl,hh,ho,hI⟩|⟨rfl,ha,hDn⟩
      ·refine .inl ⟨rfl,hh,?_,?_⟩
       ·exact aS0 (ac0 ho oM) (aT0 V6 w.heap.size _ _ _ _ _) (fun g hg e=>by
         have:=(aW0 ho hg).1;omega)
       ·exact (hI.mono oM hN).an0 (aT0 V6 w.heap.size _ _ _ _ _) g4 dC (nLL H1.out.1.st.base H1.out.1.st.bs0)
      ·exact .inr ⟨rfl,ha,(hDn.mono oM).frL (aT0 V6 w.heap.size _ _ _ _ _) g4 dC⟩
    ·have HX:=hi2 ha hDn;clear ha hDn;go_wp2_with fail
     have hs1:=H1.out.2.2.1;refine bodyPost_ret (v:=.tuple #[eh0 (0,0) 0 0 (.slice none 0 0),.int .i64 4]) sR rfl ⟨(0,0),0,0,none,0,0,4,rfl,?_,.inr ⟨rfl,HX.out.1,?_⟩⟩
     ·exact (FrB.trans (FrB.none H1.out.2.1) H5.out.2.1).trans' (aT0 V5 w.heap.size _ _ _ _ _) (fun b hb e=>oM)
     ·exact (HX.out.2.mono oM).frL (aT0 V5 w.heap.size _ _ _ _ _) (HB4.out V5 H5.out.2.1) dC
   ·refine az0 _ gF rF (fun K hK=>?_);go_simp;obtain⟨b6,hb6⟩:=eX w1.heap.size
    obtain⟨V4,hV4⟩:=eX ((w1.alloc (.cells #[.int .i64 0,.int .i64 0] 35)).drew)
    have F4:Fq w1 V4:=(by rw[<- hV4];exact ((Fr.refl _ _).alloc _).drew);have g6:V4.heap[b6]?=some (.cells #[.int .i64 0,.int .i64 0] 35):=(by rw[<- hV4,<- hb6];exact han w1 _);rw[hb6,hV4];refine hK _ _ (FrB.none F4) ?_;clear hK K hV4;try simp only[Act.put,sI,sZ,sS]
    refine az0 _ gF rF (fun K hK=>?_);go_simp;refine (HGt.out _ F4).mono ?_;rintro _ V3 ⟨p3,s3,err,rfl,F3,hr⟩;have FG3:FrB B w1 V3:=FrB.trans (FrB.none F4) F3;have g63:=FrB.heap F3 g6 dC;have H3:=hi2 FG3 hr;try go_simp
    refine hK _ _ FG3 ?_;clear hK K F3 hr FG3;iterate 3
     try simp only[Act.put,sI,sZ,sS]
     refine ay0 _ ?_ gF rF ?_ ?_;rotate_left
     ·intro V hV;go_simp;try with_reducible rfl
    try simp only[Act.put,sI,sZ,sS]
    refine az0 _ gF rF (fun K hK=>?_);obtain⟨y0,y1,yz,yl⟩:=cells2 g63;go_simp;obtain⟨V5,hV5⟩:=eX ((V3.setCell ⟨b6,0,none⟩ (.int .i64 p3)).setCell ⟨b6,1,none⟩ (.int .i64 s3))
    have F5:Fr (fun k=>k=b6) V3 V5:=(by rw[<- hV5];exact ((Fr.refl (fun k=>k=b6) V3).setCell (a:=⟨b6,_,none⟩) (fun _=>rfl) _).setCell (a:=⟨b6,_,none⟩) (fun _=>rfl) _);have g5:V5.heap[b6]?=some (.cells #[.int .i64 p3,.int .i64 s3] 35):=(by rw[<- hV5,hsc _ _ _ _ (hsc _ _ _ _ g63)];rfl);have FG5:FrB B w1 V5:=FrB.trans' H3.out.1 F5 (fun b hb e=>oM);have H5:=hi2 g5 (aI FG5 ((jG0 (H1.out.1.fr0 H1.out.2.1) H1.out.2.2.2 H3.out.1 H3.out.2).set F5 g63 (by rw[<- hb6];exact nLL H1.out.1.st.base (nT H1.out.1.st.bs0 H1.out.2.1.size))));rw[hV5];refine hK _ _ FG5 ?_;clear hK K hV5 F5 g5 FG5 y0 y1 yz yl g63 g6;try simp only[Act.put,sI,sZ,sS]
    refine ay0 _ ?_ gF rF ?_ ?_;rotate_left
    ·intro V hV;go_simp;try with_reducible rfl
    try simp only[Act.put,sI,sZ,sS]
    refine ar0 ?_;refine NoPanic.normal ?_;clear FG;obtain⟨y0,y1,yz,yl⟩:=cells2 H5.out.1;obtain⟨⟨i0,i1,i2,i3,i4,iz,il⟩,⟨o0,o1,o2,o3,o4,oz,ol⟩⟩:=HB.out V5 H5.out.2.1;rcases H5.out.2.2 with⟨rfl,he,hI⟩|⟨rfl,ha,hDn⟩
    ·obtain⟨rfl,rfl⟩:p3=r.1/\s3=r.2:=by rw[<- he];exact⟨rfl,rfl⟩
     have HRe:=hid (fm0 hI HQ.out.1 HQ.out.2.1 oM hp oM);clear hI he;go_wp2_with fail
     refine HRe.out.mono ?_;rintro e V6 ⟨r6,d6,p6,va,n6,vc,err,rfl,F6,hr6⟩;have FG6:FrB B w1 V6:=FrB.trans H5.out.2.1 F6;have H6:=hi2 FG6 (aI F6.size hr6);clear y0 y1 yz yl i0 i1 i2 i3 i4 iz il o0 o1 o2 o3 o4 oz ol F6 hr6;obtain⟨-,⟨o0,o1,o2,o3,o4,oz,ol⟩⟩:=HB.out V6 FG6;clear FG6;go_wp2_with fail
     have hs1:=H1.out.2.2.1;have g4:=HB4.out V6 H6.out.1;have hv5:w1.heap.size<=V5.heap.size:=H5.out.2.1.size;refine bodyPost_ret (v:=.tuple #[eh0 r6 d6 p6 (.slice va n6 vc),.int .i64 err]) sR rfl ⟨r6,d6,p6,va,n6,vc,err,rfl,?_,?_⟩
     ·exact (FrB.trans (FrB.none H1.out.2.1) H6.out.1).trans' (aT0 V6 w.heap.size _ _ _ _ _) (fun b hb e=>oM)
     ·rcases H6.out.2.2 with⟨rfl,hh,ho,hI⟩|⟨rfl,ha,hDn⟩
      ·refine .inl ⟨rfl,hh,?_,?_⟩
       ·exact aS0 (ac0 ho oM) (aT0 V6 w.heap.size _ _ _ _ _) (fun g hg e=>by
         have:=(aW0 ho hg).1;omega)
       ·exact (hI.mono oM hN).an0 (aT0 V6 w.heap.size _ _ _ _ _) g4 dC (nLL H1.out.1.st.base H1.out.1.st.bs0)
      ·exact .inr ⟨rfl,ha,(hDn.mono oM).frL (aT0 V6 w.heap.size _ _ _ _ _) g4 dC⟩
    ·have HX:=hi2 ha hDn;clear ha hDn;go_wp2_with fail
     have hs1:=H1.out.2.2.1;refine bodyPost_ret (v:=.tuple #[eh0 (0,0) 0 0 (.slice none 0 0),.int .i64 4]) sR rfl ⟨(0,0),0,0,none,0,0,4,rfl,?_,.inr ⟨rfl,HX.out.1,?_⟩⟩
     ·exact (FrB.trans (FrB.none H1.out.2.1) H5.out.2.1).trans' (aT0 V5 w.heap.size _ _ _ _ _) (fun b hb e=>oM)
     ·exact (HX.out.2.mono oM).frL (aT0 V5 w.heap.size _ _ _ _ _) (HB4.out V5 H5.out.2.1) dC
  ·refine az0 _ gF rF (fun K hK=>?_);go_simp;obtain⟨b6,hb6⟩:=eX w1.heap.size
   obtain⟨V4,hV4⟩:=eX ((w1.alloc (.cells #[.int .i64 0,.int .i64 0] 35)).drew)
   have F4:Fq w1 V4:=by rw[<- hV4];exact ((Fr.refl _ _).alloc _).drew
   have g6:V4.heap[b6]?=some (.cells #[.int .i64 0,.int .i64 0] 35):=by rw[<- hV4,<- hb6];exact han w1 _
   rw[hb6,hV4];refine hK _ _ (FrB.none F4) ?_;clear hK K hV4;try simp only[Act.put,sI,sZ,sS]
   refine az0 _ gF rF (fun K hK=>?_);go_simp;refine (HPr.out _).mono ?_;rintro _ _ ⟨rfl,rfl⟩;try go_simp
   refine hK _ _ (FrB.none F4) ?_;clear hK K;try simp only[Act.put,sI,sZ,sS]
   refine az0 _ gF rF (fun K hK=>?_);go_simp;refine (HGt.out _ F4).mono ?_;rintro _ V3 ⟨p3,s3,err,rfl,F3,hr⟩;have FG3:FrB B w1 V3:=FrB.trans (FrB.none F4) F3;have g63:=FrB.heap F3 g6 dC;have H3:=hi2 FG3 hr;try go_simp
   refine hK _ _ FG3 ?_;clear hK K F3 hr FG3;iterate 3
    try simp only[Act.put,sI,sZ,sS]
    refine ay0 _ ?_ gF rF ?_ ?_;rotate_left
    ·intro V hV;go_simp;try with_reducible rfl
   try simp only[Act.put,sI,sZ,sS]
   refine az0 _ gF rF (fun K hK=>?_);obtain⟨y0,y1,yz,yl⟩:=cells2 g63;go_simp;obtain⟨V5,hV5⟩:=eX ((V3.setCell ⟨b6,0,none⟩ (.int .i64 p3)).setCell ⟨b6,1,none⟩ (.int .i64 s3))
   have F5:Fr (fun k=>k=b6) V3 V5:=by rw[<- hV5];exact ((Fr.refl (fun k=>k=b6) V3).setCell (a:=⟨b6,_,none⟩) (fun _=>rfl) _).setCell (a:=⟨b6,_,none⟩) (fun _=>rfl) _
   have g5:V5.heap[b6]?=some (.cells #[.int .i64 p3,.int .i64 s3] 35):=by rw[<- hV5,hsc _ _ _ _ (hsc _ _ _ _ g63)];rfl
   have FG5:FrB B w1 V5:=FrB.trans' H3.out.1 F5 (fun b hb e=>oM);have H5:=hi2 g5 (aI FG5 ((jG0 (H1.out.1.fr0 H1.out.2.1) H1.out.2.2.2 H3.out.1 H3.out.2).set F5 g63 (by rw[<- hb6];exact nLL H1.out.1.st.base (nT H1.out.1.st.bs0 H1.out.2.1.size))));rw[hV5];refine hK _ _ FG5 ?_;clear hK K hV5 F5 g5 FG5 y0 y1 yz yl g63 g6;try simp only[Act.put,sI,sZ,sS]
   refine ay0 _ ?_ gF rF ?_ ?_;rotate_left
   ·intro V hV;go_simp;try with_reducible rfl
   try simp only[Act.put,sI,sZ,sS]
   refine ar0 ?_;refine NoPanic.normal ?_;clear FG;obtain⟨y0,y1,yz,yl⟩:=cells2 H5.out.1;obtain⟨⟨i0,i1,i2,i3,i4,iz,il⟩,⟨o0,o1,o2,o3,o4,oz,ol⟩⟩:=HB.out V5 H5.out.2.1;rcases H5.out.2.2 with⟨rfl,he,hI⟩|⟨rfl,ha,hDn⟩
   ·obtain⟨rfl,rfl⟩:p3=r.1/\s3=r.2:=by rw[<- he];exact⟨rfl,rfl⟩
    have HRe:=hid (fm0 hI HQ.out.1 HQ.out.2.1 oM hp oM);clear hI he;go_wp2_with fail
    refine HRe.out.mono ?_;rintro e V6 ⟨r6,d6,p6,va,n6,vc,err,rfl,F6,hr6⟩;have FG6:FrB B w1 V6:=FrB.trans H5.out.2.1 F6;have H6:=hi2 FG6 (aI F6.size hr6);clear y0 y1 yz yl i0 i1 i2 i3 i4 iz il o0 o1 o2 o3 o4 oz ol F6 hr6;obtain⟨-,⟨o0,o1,o2,o3,o4,oz,ol⟩⟩:=HB.out V6 FG6;clear FG6;go_wp2_with fail
    have hs1:=H1.out.2.2.1;have g4:=HB4.out V6 H6.out.1;have hv5:w1.heap.size<=V5.heap.size:=H5.out.2.1.size;refine bodyPost_ret (v:=.tuple #[eh0 r6 d6 p6 (.slice va n6 vc),.int .i64 err]) sR rfl ⟨r6,d6,p6,va,n6,vc,err,rfl,?_,?_⟩
    ·exact (FrB.trans (FrB.none H1.out.2.1) H6.out.1).trans' (aT0 V6 w.heap.size _ _ _ _ _) (fun b hb e=>oM)
    ·rcases H6.out.2.2 with⟨rfl,hh,ho,hI⟩|⟨rfl,ha,hDn⟩
     ·refine .inl ⟨rfl,hh,?_,?_⟩
      ·exact aS0 (ac0 ho oM) (aT0 V6 w.heap.size _ _ _ _ _) (fun g hg e=>by
        have:=(aW0 ho hg).1;omega)
      ·exact (hI.mono oM hN).an0 (aT0 V6 w.heap.size _ _ _ _ _) g4 dC (nLL H1.out.1.st.base H1.out.1.st.bs0)
     ·exact .inr ⟨rfl,ha,(hDn.mono oM).frL (aT0 V6 w.heap.size _ _ _ _ _) g4 dC⟩
   ·have HX:=hi2 ha hDn;clear ha hDn;go_wp2_with fail
    have hs1:=H1.out.2.2.1;refine bodyPost_ret (v:=.tuple #[eh0 (0,0) 0 0 (.slice none 0 0),.int .i64 4]) sR rfl ⟨(0,0),0,0,none,0,0,4,rfl,?_,.inr ⟨rfl,HX.out.1,?_⟩⟩
    ·exact (FrB.trans (FrB.none H1.out.2.1) H5.out.2.1).trans' (aT0 V5 w.heap.size _ _ _ _ _) (fun b hb e=>oM)
    ·exact (HX.out.2.mono oM).frL (aT0 V5 w.heap.size _ _ _ _ _) (HB4.out V5 H5.out.2.1) dC
 ·refine az0 _ gF rF (fun K hK=>?_);go_simp;obtain⟨b6,hb6⟩:=eX w1.heap.size
  obtain⟨V4,hV4⟩:=eX ((w1.alloc (.cells #[.int .i64 0,.int .i64 0] 35)).drew)
  have F4:Fq w1 V4:=by rw[<- hV4];exact ((Fr.refl _ _).alloc _).drew
  have g6:V4.heap[b6]?=some (.cells #[.int .i64 0,.int .i64 0] 35):=by rw[<- hV4,<- hb6];exact han w1 _
  rw[hb6,hV4];refine hK _ _ (FrB.none F4) ?_;clear hK K hV4;try simp only[Act.put,sI,sZ,sS]
  refine az0 _ gF rF (fun K hK=>?_);go_simp;refine (HDp.out _ F4).mono ?_;rintro _ _ ⟨rfl,rfl⟩;try go_simp
  refine hK _ _ (FrB.none F4) ?_;clear hK K;try simp only[Act.put,sI,sZ,sS]
  refine az0 _ gF rF (fun K hK=>?_);go_simp;refine (HPr.out _).mono ?_;rintro _ _ ⟨rfl,rfl⟩;try go_simp
  refine hK _ _ (FrB.none F4) ?_;clear hK K;try simp only[Act.put,sI,sZ,sS]
  refine az0 _ gF rF (fun K hK=>?_);go_simp;refine (HGt.out _ F4).mono ?_;rintro _ V3 ⟨p3,s3,err,rfl,F3,hr⟩;have FG3:FrB B w1 V3:=FrB.trans (FrB.none F4) F3;have g63:=FrB.heap F3 g6 dC;have H3:=hi2 FG3 hr;try go_simp
  refine hK _ _ FG3 ?_;clear hK K F3 hr FG3;iterate 3
   try simp only[Act.put,sI,sZ,sS]
   refine ay0 _ ?_ gF rF ?_ ?_;rotate_left
   ·intro V hV;go_simp;try with_reducible rfl
  try simp only[Act.put,sI,sZ,sS]
  refine az0 _ gF rF (fun K hK=>?_);obtain⟨y0,y1,yz,yl⟩:=cells2 g63;go_simp;obtain⟨V5,hV5⟩:=eX ((V3.setCell ⟨b6,0,none⟩ (.int .i64 p3)).setCell ⟨b6,1,none⟩ (.int .i64 s3))
  have F5:Fr (fun k=>k=b6) V3 V5:=by rw[<- hV5];exact ((Fr.refl (fun k=>k=b6) V3).setCell (a:=⟨b6,_,none⟩) (fun _=>rfl) _).setCell (a:=⟨b6,_,none⟩) (fun _=>rfl) _
  have g5:V5.heap[b6]?=some (.cells #[.int .i64 p3,.int .i64 s3] 35):=by rw[<- hV5,hsc _ _ _ _ (hsc _ _ _ _ g63)];rfl
  have FG5:FrB B w1 V5:=FrB.trans' H3.out.1 F5 (fun b hb e=>oM);have H5:=hi2 g5 (aI FG5 ((jG0 (H1.out.1.fr0 H1.out.2.1) H1.out.2.2.2 H3.out.1 H3.out.2).set F5 g63 (by rw[<- hb6];exact nLL H1.out.1.st.base (nT H1.out.1.st.bs0 H1.out.2.1.size))));rw[hV5];refine hK _ _ FG5 ?_;clear hK K hV5 F5 g5 FG5 y0 y1 yz yl g63 g6;try simp only[Act.put,sI,sZ,sS]
  refine ay0 _ ?_ gF rF ?_ ?_;rotate_left
  ·intro V hV;go_simp;try with_reducible rfl
  try simp only[Act.put,sI,sZ,sS]
  refine ar0 ?_;refine NoPanic.normal ?_;clear FG;obtain⟨y0,y1,yz,yl⟩:=cells2 H5.out.1;obtain⟨⟨i0,i1,i2,i3,i4,iz,il⟩,⟨o0,o1,o2,o3,o4,oz,ol⟩⟩:=HB.out V5 H5.out.2.1;rcases H5.out.2.2 with⟨rfl,he,hI⟩|⟨rfl,ha,hDn⟩
  ·obtain⟨rfl,rfl⟩:p3=r.1/\s3=r.2:=by rw[<- he];exact⟨rfl,rfl⟩
   have HRe:=hid (fm0 hI HQ.out.1 HQ.out.2.1 oM hp oM);clear hI he;go_wp2_with fail
   refine HRe.out.mono ?_;rintro e V6 ⟨r6,d6,p6,va,n6,vc,err,rfl,F6,hr6⟩;have FG6:FrB B w1 V6:=FrB.trans H5.out.2.1 F6;have H6:=hi2 FG6 (aI F6.size hr6);clear y0 y1 yz yl i0 i1 i2 i3 i4 iz il o0 o1 o2 o3 o4 oz ol F6 hr6;obtain⟨-,⟨o0,o1,o2,o3,o4,oz,ol⟩⟩:=HB.out V6 FG6;clear FG6;go_wp2_with fail
   have hs1:=H1.out.2.2.1;have g4:=HB4.out V6 H6.out.1;have hv5:w1.heap.size<=V5.heap.size:=H5.out.2.1.size;refine bodyPost_ret (v:=.tuple #[eh0 r6 d6 p6 (.slice va n6 vc),.int .i64 err]) sR rfl ⟨r6,d6,p6,va,n6,vc,err,rfl,?_,?_⟩
   ·exact (FrB.trans (FrB.none H1.out.2.1) H6.out.1).trans' (aT0 V6 w.heap.size _ _ _ _ _) (fun b hb e=>oM)
   ·rcases H6.out.2.2 with⟨rfl,hh,ho,hI⟩|⟨rfl,ha,hDn⟩
    ·refine .inl ⟨rfl,hh,?_,?_⟩
     ·exact aS0 (ac0 ho oM) (aT0 V6 w.heap.size _ _ _ _ _) (fun g hg e=>by
       have:=(aW0 ho hg).1;omega)
     ·exact (hI.mono oM hN).an0 (aT0 V6 w.heap.size _ _ _ _ _) g4 dC (nLL H1.out.1.st.base H1.out.1.st.bs0)
    ·exact .inr ⟨rfl,ha,(hDn.mono oM).frL (aT0 V6 w.heap.size _ _ _ _ _) g4 dC⟩
  ·have HX:=hi2 ha hDn;clear ha hDn;go_wp2_with fail
   have hs1:=H1.out.2.2.1;refine bodyPost_ret (v:=.tuple #[eh0 (0,0) 0 0 (.slice none 0 0),.int .i64 4]) sR rfl ⟨(0,0),0,0,none,0,0,4,rfl,?_,.inr ⟨rfl,HX.out.1,?_⟩⟩
   ·exact (FrB.trans (FrB.none H1.out.2.1) H5.out.2.1).trans' (aT0 V5 w.heap.size _ _ _ _ _) (fun b hb e=>oM)
   ·exact (HX.out.2.mono oM).frL (aT0 V5 w.heap.size _ _ _ _ _) (HB4.out V5 H5.out.2.1) dC
end
end Go.Proofs.YtgdhaaokolfdoaaGreatDoor
namespace Go.Sg
open Go.RowKit
section
variable {P:Program}
theorem cq0 (w:World)(dT sT ty elem:TypeId)(size m:Nat)(g o dLen dCap:Nat)(a:Addr)(sLen sCap:Nat)(cur:Array Value)(t:TypeId)(cs:List Value)
  (hu:P.underlying dT=some (.slice elem)) (hs:(P.info? elem).map (·.size)=some size)
  (hg:w.heap[g]?=some (.cells cur t (0,0))) (hm:Nat.min sLen dLen=m) (hn:cs.length=m*size)
  (hsrc:∀ j v,cs[j]?=some v->w.cell? (a.add j)=some v) (hfit:o+cs.length<=cur.size) (h1:∀ v ∈ cs,v.oneCell'=true) :
  (Builtin.copy_ #[dT,sT] ty #[.slice (some ⟨g,o,none⟩) dLen dCap,.slice (some a) sLen sCap]).run P w =
   .ok (goInt m) (w.setRow g (cur.toList.take o++cs++cur.toList.drop (o+cs.length)).toArray):=by
 have hl:=run_loadCells_list (P:=P) w a cs hsrc;have hst:=run_storeCells_at P g o t cs 0 cur w hg (by simpa using hfit) h1;cases hq:P.info? elem with
 | none=>simp[hq] at hs
 | some i =>
  have hi:i.size=size:=by simpa[hq] using hs
  simp[Builtin.copy_,run_underlying hu,Builtin.lenOf,Builtin.firstCells,sizeOf,typeInfo,hq,hi,hm,<- hn,hl,hst]
theorem iJ0 (w:World)(t e ty:TypeId)(z:Value)(size:Nat)(ht:P.underlying t=some (.slice e))(hv:∀ w,(zeroValue e).run P w = .ok z w)(hz:z.cells.size=size)(h0:0<size)(h1:∀ v ∈ z.cells.toList,v.oneCell'=true)
  (g o n c:Nat) (hn:0<n) (cur:Array Value) (te:TypeId) (hg:w.heap[g]?=some (.cells cur te (0,0))) (hfit:o+n*size<=cur.size) :
  ∃ zs:List Value,zs.length=n*size/\(Builtin.clear_ #[t] ty #[.slice (some ⟨g,o,none⟩) n c]).run P w = .ok (.tuple #[]) (w.setRow g (cur.toList.take o++zs++cur.toList.drop (o+zs.length)).toArray):=by
 have hl:(Builtin.zeroCells z.cells n).toList.length=n*size:=by rw[lT9,size_zeroCells,hz]
 refine⟨(Builtin.zeroCells z.cells n).toList,hl,?_⟩;have hst:=run_storeCells_at P g o te (Builtin.zeroCells z.cells n).toList 0 cur w hg (by rw[hl];omega) (by
  intro v hv;simp only[Builtin.zeroCells,Array.toList_map,ld9] at hv;obtain⟨i,_,rfl⟩:=hv;have hi:i % z.cells.size<z.cells.size:=mD9 _ oM;rw[getElem!_pos z.cells _ hi];exact h1 _ sP)
 obtain⟨m,rfl⟩:∃ m,n=m+1:=⟨n-1,oM⟩
 simp[Builtin.clear_,run_underlying ht,hv,hst]
variable {w w':World}{o:Oper}{a:Act}{K:Act->World->Prop}{Q:Exit->Act->World->Prop}{v':Value}{ops:Array Oper}{E:Prop}
theorem jb0 (s x:Operand)(t t':TypeId)
  (ho:o.op = .call { callee:=.builtin .append,args:=#[s,x],argTypes:=#[t,t'] }) (v u:Value) (hs:a.eval s=v) (hx:a.eval x=u)
  (hr:(Builtin.append_ #[t,t'] o.type #[v,u]).run P w = .ok v' w') (h:K (a.put o.dst v') w'):o.wp P a w K Q:=by
 unfold Oper.wp execOp;simp only[ho,resolve,invoke,builtin,Sem.run_bind,Sem.run_pure,Result.andThen_ok,nv9,mj9,mH9,hs,hx,hr];exact h
theorem iH0 {rest:List Oper}(hgd:o.guard=none)(s x:Operand)(t t':TypeId)
  (ho:o.op = .call { callee:=.builtin .append,args:=#[s,x],argTypes:=#[t,t'] }) (v u:Value) (hs:a.eval s=v) (hx:a.eval x=u)
  (hr:(Builtin.append_ #[t,t'] o.type #[v,u]).run P w = .ok v' w') (h:wpList P ops Q rest (a.put o.dst v') w'):wpList P ops Q (o :: rest) a w:=
 wpList_plain hgd fun _ hK=>jb0 s x t t' ho v u hs hx hr (hK _ _ h)
theorem lP0 (hgd:o.guard=none)(s x:Operand)(t t':TypeId)
  (ho:o.op = .call { callee:=.builtin .append,args:=#[s,x],argTypes:=#[t,t'] }) (v u:Value) (hs:a.eval s=v) (hx:a.eval x=u)
  (hr:(Builtin.append_ #[t,t'] o.type #[v,u]).run P w = .ok v' w') (h:K (a.put o.dst v') w'):if Region.wanted o (yielded ops a.tmps)=true then Oper.wp P o a w K Q else E:=by
 have hw:Region.wanted o (yielded ops a.tmps)=true:=by simp[Region.wanted,hgd]
 rw[if_pos hw];exact jb0 s x t t' ho v u hs hx hr h
theorem wp_copy_run (s x:Operand)(t t':TypeId)
  (ho:o.op = .call { callee:=.builtin .copy,args:=#[s,x],argTypes:=#[t,t'] }) (v u:Value) (hs:a.eval s=v) (hx:a.eval x=u)
  (hr:(Builtin.copy_ #[t,t'] o.type #[v,u]).run P w = .ok v' w') (h:K (a.put o.dst v') w'):o.wp P a w K Q:=by
 unfold Oper.wp execOp;simp only[ho,resolve,invoke,builtin,Sem.run_bind,Sem.run_pure,Result.andThen_ok,nv9,mj9,mH9,hs,hx,hr];exact h
theorem fw0 (hgd:o.guard=none)(s x:Operand)(t t':TypeId)
  (ho:o.op = .call { callee:=.builtin .copy,args:=#[s,x],argTypes:=#[t,t'] }) (v u:Value) (hs:a.eval s=v) (hx:a.eval x=u)
  (hr:(Builtin.copy_ #[t,t'] o.type #[v,u]).run P w = .ok v' w') (h:K (a.put o.dst v') w'):if Region.wanted o (yielded ops a.tmps)=true then Oper.wp P o a w K Q else E:=by
 have hw:Region.wanted o (yielded ops a.tmps)=true:=by simp[Region.wanted,hgd]
 rw[if_pos hw];exact wp_copy_run s x t t' ho v u hs hx hr h
end
theorem cJ0 (w:World)(g:Nat)(cs:Array Value):Fr (fun b=>b=g) w (w.setRow g cs):=
 ⟨rfl,rfl,rfl,by simp,fun b _ hn=>setRow_other w g b cs hn⟩
end Go.Sg
namespace Go.Proofs.YtgdhaaokolfdoaaGreatDoor
open Go.RowKit Go.Sg CP SF
theorem xQ0 (a:Option Addr)(n c m:Nat)(h:m<=c)(W:World):(Instr.slice 127 (.slice a n c) none (some (.int .i64 m)) none).run Tryz.prog W = .ok (.slice a m c) W:=eA0 127 4 kF (fun W=>by kernel_rfl) a n c m h W
theorem ep0 (g n c m:Nat)(h:m<=n)(hc:m<c)(W:World):(Instr.slice 127 (.slice (some ⟨g,0,none⟩) n c) (some (.int .i64 m)) none none).run Tryz.prog W = .ok (.slice (some ⟨g,m*4,none⟩) (n-m) (c-m)) W:=by
 rw[bW0 127 4 kF (fun W=>by kernel_rfl) _ n c m h W,if_neg oM];simp[aI0]
theorem zy0 (g n c l h:Nat)(h1:l<=h)(h2:h<=c)(hc:l<c)(W:World):(Instr.slice 127 (.slice (some ⟨g,0,none⟩) n c) (some (.int .i64 l)) (some (.int .i64 h)) none).run Tryz.prog W = .ok (.slice (some ⟨g,l*4,none⟩) (h-l) (c-l)) W:=by
 rw[run_slice_lh W 127 _ n c kF .i64 .i64 l h oM oM oM];rw[show ((sizeOf (Tryz.prog.elem 127)).run Tryz.prog W) = .ok 4 W by kernel_rfl];simp only[Result.andThen_ok,sliced,lG9];rw[if_neg oM];simp[aI0]
theorem zz0 (g n c l h m:Nat)(h1:l<=h)(h2:h<=m)(h3:m<=c)(W:World):∃ v,∀ W,(Instr.slice 127 (.slice (some ⟨g,0,none⟩) n c) (some (.int .i64 l)) (some (.int .i64 h)) (some (.int .i64 m))).run Tryz.prog W = .ok v W:=by
 refine⟨sliced (some ⟨g,0,none⟩) l h m 4,fun W=>?_⟩;rw[run_slice_lhm W 127 _ n c kF .i64 .i64 .i64 l h m oM oM oM oM];rw[show ((sizeOf (Tryz.prog.elem 127)).run Tryz.prog W) = .ok 4 W by kernel_rfl];simp only[Result.andThen_ok,lG9]
theorem Tryz.xM0 (w:World):(zeroValue 118).run Tryz.prog w = .ok (.agg #[.int .u64 0,.int .i64 0,.int .i64 0,.int .i64 0]) w:=by kernel_rfl
theorem qW0 (es:List Bt):∀ u ∈ es.flatMap btC,u.oneCell'=true:=by
 intro u hu;obtain⟨x,_,hx⟩:=mf9.1 hu;simp[btC] at hx;rcases hx with rfl|rfl|rfl|rfl <;> rfl
variable {w:World}{base:Nat}{es:List Bt}
theorem iq0 {v:Value}(h:bm0 w base v es)(hn:0<es.length):∃ g c cur,v = .slice (some ⟨g,0,none⟩) es.length c/\base<=g/\w.heap[g]?=some (.cells cur 118)/\es.length<=c/\c<=maxLen/\cur.size=c*4/\cur.toList.take (es.length*4)=es.flatMap btC:=by
 obtain⟨hl,⟨h0,h1⟩|⟨g,c,cur,r⟩⟩:=h
 ·omega
 ·exact⟨g,c,cur,r⟩
theorem eM0 {g c:Nat}{cur:Array Value}(hb:base<=g)(hg:w.heap[g]?=some (.cells cur 118))(hc:es.length<=c)(hm:c<=maxLen)(hs:cur.size=c*4)(ht:cur.toList.take (es.length*4)=es.flatMap btC):bm0 w base (.slice (some ⟨g,0,none⟩) es.length c) es:=
 ⟨bl0 es,.inr ⟨g,c,cur,rfl,hb,hg,hc,hm,hs,ht⟩⟩
theorem mr0 (es:List Bt):∀ k:Nat,(es.flatMap btC).take (k*4)=(es.take k).flatMap btC:=by
 induction es with
 | nil=>intro k;simp
 | cons x es ih =>
  intro k;cases k with
  | zero=>simp
  | succ k =>
   rw[lj9,mY9,lj9,<- ih k,show (k+1)*4=4+k*4 by omega];simp[btC,show 4+k*4=k*4+1+1+1+1 by omega]
theorem jS0 (es:List Bt):∀ k:Nat,(es.flatMap btC).drop (k*4)=(es.drop k).flatMap btC:=by
 induction es with
 | nil=>intro k;simp
 | cons x es ih =>
  intro k;cases k with
  | zero=>simp
  | succ k =>
   rw[lj9,List.drop_succ_cons,<- ih k,show (k+1)*4=4+k*4 by omega];simp[btC,show 4+k*4=k*4+1+1+1+1 by omega]
theorem nU0 {cur:List Value}(h:cur.take (es.length*4)=es.flatMap btC){k:Nat}(hk:k<=es.length):cur.take (k*4)=(es.take k).flatMap btC:=by
 rw[<- mr0,<- h,List.take_take];congr 1;omega

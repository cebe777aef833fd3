/- A pack of texts. Conditions: those that each names. -/
import Derived.Test.YtgdhaaokolfdoaaGreatDoorNBF
set_option maxHeartbeats 16000000
set_option maxRecDepth 100000
set_option linter.all false
namespace Go.Proofs.YtgdhaaokolfdoaaGreatDoor
section
open Go.Proofs Go.RowKit Go.Sg Go.Shelf CP SF
attribute [local go_sem] Oper.semAt_some
theorem vL0 (p s q t:Int)(w:World):(binOp .neq 35 (fT0 p s) (fT0 q t)).run Tryz.prog w = .ok (.bool (!(decide (p=q) && decide (s=t)))) w:=by
 have h:Tryz.prog.underlying 35=_:=Tryz.underlying35;go_simp;by_cases h1:p=q <;> by_cases h2:s=t <;> simp[h1,h2]
theorem oL0 (bx:Nat)(a:Option Addr)(n c be:Nat)(w:World) :
  Calls Tryz.prog 140 #[cG0 bx,.slice a n c,.pointer (some ⟨be,0,none⟩)] w fun e w'=>e = .returned (.func (.func 202) #[] #[.pointer (some ⟨w.heap.size+1,0,none⟩),.pointer (some ⟨w.heap.size,0,none⟩),.pointer (some ⟨w.heap.size+2,0,none⟩)])/\((w.alloc (.cells #[cG0 bx] 105)).alloc (.cells #[.slice a n c] 33)).alloc (.cells #[.pointer (some ⟨be,0,none⟩)] 240)=w':=by
 go_enter Tryz.func140,Tryz.ntmps140;go_wp2_with fail
 go_ret;exact⟨rfl,rfl⟩
structure Slt where
 s:Sd
 va:Option Addr
 vc:Nat
abbrev encS (x:Slt):Array Value:=#[eh0 x.s.2.2.1 x.s.1 x.s.2.1 (.slice x.va x.s.2.2.2.length x.vc)]
def BkT (x:Slt)(W:World):Prop:=bm0 W 0 (.slice x.va x.s.2.2.2.length x.vc) x.s.2.2.2/\dn0 x.s.1 x.s.2.1 x.s.2.2.2
def RSt (B:Blk)(m bo:Nat)(A C:World):Prop:=FrB B A C\/Fr (fun b=>m<=b/\(∃ c,A.heap[b]?=some (.cells c 131))/\¬ PtB bo A b) A C
abbrev mP0 (s:Sd)(va:Option Addr)(vc:Nat):Array Value:=#[.int .i64 s.2.2.1.1,.int .i64 s.2.2.1.2,.int .i64 s.1,.int .i64 s.2.1,.slice va s.2.2.2.length vc]
def zF0 (bL:Nat)(pre:List Slt)(W:World):Prop:=
 (pre=[]/\W.heap[bL]?=some (.cells #[.int .i64 0,.int .i64 0,.int .i64 0,.int .i64 0,.slice none 0 0] 131))\/∃ z,pre.getLast?=some z/\W.heap[bL]?=some (.cells (mP0 z.s z.va z.vc) 131)/\BkT z W
structure BkI (B:Blk)(bx bd:Nat)(y:Cs)(P:aC0)(N:Nat)(x:aL0)(au0:List Rf)(t:Tr)(g:Nat)(L:List Bp)(sp:Int)(bo bL:Nat)(W1:World)(J:List Slt->World->Prop)(q:Nat)(pre:List Slt)(V:World):Prop where
 j:J pre V
 map:pre.map (·.s)=(bP0 t g 0 0).take q
 len:pre.length=q
 idx:aD0 V B bx bd y P false (N+q) x au0 (t.slots g) L sp
 acc:Acc bo W1 V
 last:zF0 bL pre V
theorem cg0 {W:World}{b:Nat}{x0 x1 x2 x3 x4:Value}{t:TypeId}(h:W.heap[b]?=some (.cells #[x0,x1,x2,x3,x4] t))(u0 u1 u2 u3 u4:Value):(zk0 W b u0 u1 u2 u3 u4).heap[b]?=some (.cells #[u0,u1,u2,u3,u4] t):=by
 unfold zk0;rw[hsc _ _ _ _ (hsc _ _ _ _ (hsc _ _ _ _ (hsc _ _ _ _ (hsc _ _ _ _ h))))];rfl
variable {bo n:Nat}{A C:World}
theorem gT0 (F:Fq A C)(h:oT0 bo A):Acc bo A C:=by
 obtain⟨v,hv⟩:=h;have hc:=F.heap hv id;refine⟨F.size,fun b c t f hb _ _=>F.heap hb id,fun g ⟨v',hv',ho⟩=>?_,⟨v,hc⟩⟩;rw[hc] at hv';cases hv';exact .inr ⟨v,hv,ho⟩
theorem qk0 {bL:Nat}(F:Fr (fun b=>b=bL) A C)(h:oT0 bo A)(hne:bL≠bo){c0:Array Value}(hL:A.heap[bL]?=some (.cells c0 131)):Acc bo A C:=by
 obtain⟨v,hv⟩:=h;have hc:=F.heap hv (fun h=>hne h.symm);refine⟨F.size,fun b c t f hb ht _=>F.heap hb (fun e=>by rw[e,hL] at hb;cases hb;exact ht sP),fun g ⟨v',hv',ho⟩=>?_,⟨v,hc⟩⟩;rw[hc] at hv';cases hv';exact .inr ⟨v,hv,ho⟩
theorem KpO.own {m:Nat}(K:KpO m bo A C){base e size:Nat}{v:Value}{xs:List Value}(h:A.ownsRow base e size v n xs)(he:e≠131/\e≠124)(hbo:oT0 bo A):C.ownsRow base e size v n xs:=by
 obtain⟨u,hu⟩:=hbo;obtain⟨hl,h0|⟨g,cap,cur,hv,hb,hg,r⟩⟩:=h
 ·exact⟨hl,.inl h0⟩
 ·refine⟨hl,.inr ⟨g,cap,cur,hv,hb,K.keep g _ hg (fun e'=>?_) (fun⟨_,c,f,e'⟩=>?_) (.inr rfl),r⟩⟩
  ·rw[e',hu] at hg;cases hg;exact he.2 rfl
  ·rw[hg] at e';cases e';exact he.1 rfl
theorem dw0 {l:List Sd}{q:Nat}{s:Sd}(hs:l[q]?=some s){pre:List Slt}(hm:pre.map (·.s)=l.take q)(z:Slt)(hz:z.s=s):(pre++[z]).map (·.s)=l.take (q+1):=by
 rw[lt9,hm,List.map_singleton,hz,lw9,hs];rfl
theorem gk0 {β:Type}{Bn:Nat}{J:β->World->Prop}(hJ:OwnFrom Bn J){s:β}{W W':World}(h:J s W)(F:Fq W W'):J s W':=
 hJ s W W' none h ⟨F.os,F.tape,F.output,F.size,fun b hb _=>F.block b hb id⟩ (fun r e=>by cases e)
theorem tZ0 {w:World}{B:Blk}{bx bd:Nat}{y:Cs}{P:aC0}{N:Nat}{x:aL0}{au0:List Rf}{L:List Bp}{sp:Int}{t:Tr}{g c:Nat}{la:Option Addr}{blb bxb beb:Nat}
  (hI:aD0 w B bx bd y P false N x au0 (t.slots g) L sp) (hP:L.Perm (lds t 0 0)) (hok:okT t 0 0) (hh:t.high<=g) (hg:g<=3) (hn:2^g=n)
  (hxb:w.heap[bxb]?=some (.cells #[cG0 bx] 105)) (hlb:w.heap[blb]?=some (.cells #[.slice la n c] 33)) (hrow:iG0 w la (t.slots g)) (hbo:w.heap[bo]?=some (.cells #[.slice none 0 0] 124)) (h0b:0<bo) (hN:N+8<=90000) :
  vd0 Fence.wide 9 Tryz.prog 202 #[.pointer (some ⟨blb,0,none⟩),.pointer (some ⟨bxb,0,none⟩),.pointer (some ⟨beb,0,none⟩)] encS BkT (RSt B w.heap.size bo) (KpO w.heap.size bo) (fun xs=>xs.map (·.s)=bP0 t g 0 0) (fun _=>True) (fun W=>aD0 W B bx bd y P false (N+8) x au0 (t.slots g) L sp) n w:=fun lp J Jx W hW hJ hJx hJR hY h0=>by
 have FW:Fq w W:=Fr.of_below hW;have hn8:n<=8:=by rw[<- hn];exact nT (lc9 dC hg) dC
 have hlen:(bP0 t g 0 0).length=n:=by rw[cI0 t g 0 0 hh,hn]
 have hwW:=FW.size;have HR:=hid (show (∀ s ∈ lvs t 0 0,(s.2.2.1,aA0 s.1 s.2.1 s.2.2.2) ∈ L)/\(∀ s ∈ lvs t 0 0,dn0 s.1 s.2.1 s.2.2.2/\s.2.1<2^s.1/\0<=s.1/\s.1<=0+t.high)/\(∀ r,B.at_ r<w.heap.size)/\0<bo/\bo<w.heap.size from
  ⟨fun s hs=>vP0 hP hs,fun s hs=>nC0 t 0 0 hok sP s hs,fun r=>hI.st.roles r,h0b,loh hbo⟩)
 have HInj:=hid (fun (s s':Sd) (hs:s ∈ lvs t 0 0) (hs':s' ∈ lvs t 0 0) (e:s.2.2.1=s'.2.2.1)=>xz0 (List.Nodup.sublist (List.sublist_append_right _ _) hI.live.1) hP hs hs' e);obtain⟨bL,hbL⟩:=eX W.heap.size
 obtain⟨W1,hW1⟩:=eX (W.alloc (.cells #[.int .i64 0,.int .i64 0,.int .i64 0,.int .i64 0,.slice none 0 0] 131))
 have F1:Fq W W1:=by rw[<- hW1];exact (Fr.refl _ _).alloc _
 have FW1:=FW.trans F1 nI;have hL1:W1.heap[bL]?=some (.cells #[.int .i64 0,.int .i64 0,.int .i64 0,.int .i64 0,.slice none 0 0] 131):=by rw[<- hW1,<- hbL];exact han _ _
 have hbo1:=FW1.heap hbo id;have hlb1:=FW1.heap hlb id;have hxb1:=FW1.heap hxb id;have H1:=hid (show W1.heap[blb]?=some (.cells #[.slice la n c] 33)/\W1.heap[bo]?=some (.cells #[.slice none 0 0] 124)/\W1.heap[bxb]?=some (.cells #[cG0 bx] 105)/\(w.heap.size<=bL/\bL<W1.heap.size/\0<w.heap.size) from⟨hlb1,hbo1,hxb1,oM,loh hL1,by have:=loh hbo;omega⟩);have HRow:=hid (hrow.fr0 FW1);have HB0:=hid (show BkI B bx bd y P N x au0 t g L sp bo bL W1 J 0 [] W1 from⟨gk0 hJ h0 F1,by simp,rfl,hI.fr0 FW1,Acc.refl ⟨_,hbo1⟩,.inl ⟨rfl,hL1⟩⟩);have HW1:=hid hW1;have HLen:=hid hlen;have HHi:=hid (show t.high<=8 by omega);have hneb:bo≠blb/\bo≠bxb:=⟨fun e=>(by rw[e,hlb] at hbo;cases hbo),fun e=>(by rw[e,hxb] at hbo;cases hbo)⟩;have HNe:=hid hneb;have HbL:=hid hbL;clear hI hP hok hh hn hxb hlb hrow hbo hW FW FW1 F1 hL1 hbo1 hlb1 hxb1 hW1 hlen hneb h0 hbL;refine callsIn_of_wp Tryz.func202 rfl trivial ?_ rfl;simp only[Tryz.ntmps202,zA,lC,lz9,Nat.reduceAdd,Nat.reduceSub,lq9,lr9,ly9,ls9,le9,lo9];gi_upto_region 1 with (fail)
 rw[HW1.out];rw[HbL.out];have cs:=coh H1.out.1 0;simp at cs;have csl:=loh H1.out.1;gi_wp2_with (fail)
 clear cs csl;gi_loopw [12] (fun tv wr=>∃ (q:Nat) (pre:List Slt),q<=n/\tv = .int .i64 q/\BkI B bx bd y P N x au0 t g L sp bo bL W1 J q pre wr) (fun tv _=>n-(intOf tv).toNat)
 case atStart=>exact⟨0,[],la9 _,rfl,HB0.out⟩
 case round =>
  obtain⟨q,pre,hq,rfl,hBk⟩:=hrel;have HBk:=hid hBk;clear hBk;by_cases hlt:q<n
  ·have hdq:decide ((q:Int)<(n:Int))=true:=by simp;omega
   have hqi:(q:Int)<(n:Int):=oM
   have hqw:wrap64 ((q:Int)+1)=((q+1:Nat):Int):=by simp only[wrap64];omega
   obtain⟨s,hs⟩:∃ s,(bP0 t g 0 0)[q]?=some s:=⟨_,gE (by rw[HLen.out];exact hlt)⟩
   have hsr:(t.slots g)[q]?=some s.2.2.1:=by rw[<- bD0 t g 0 0,gP,hs];rfl
   have hsm:s ∈ lvs t 0 0:=dG0 _ _ _ _ _ (gM hs);obtain⟨b,off,rfl,hb,hc0,hc1⟩:=HRow.out.row.at_ q _ hsr;obtain⟨cc,hcc⟩:=HRow.out.ty b off rfl (List.ne_nil_of_mem (gM hsr));have hcw:=HBk.out.acc.keep b _ _ _ hcc dC (fun e=>by have h2:=H1.out.2.1;rw[<- e,hcc] at h2;cases h2);have c0:=(World.cell?_of_block (a:=⟨b,off+q*2,none⟩) (hcw.trans hcc.symm)).trans hc0;have c1:=(World.cell?_of_block (a:=⟨b,off+q*2+1,none⟩) (hcw.trans hcc.symm)).trans hc1;have cl:=loh hcw;have HS:=hid (show (bP0 t g 0 0)[q]?=some s/\s ∈ lvs t 0 0/\dn0 s.1 s.2.1 s.2.2.2/\s.2.1<2^s.1/\s.1<=8 from⟨hs,hsm,(HR.out.2.1 s hsm).1,(HR.out.2.1 s hsm).2.1,by
    have h4:=(HR.out.2.1 s hsm).2.2.2;have h5:=HHi.out;omega⟩)
   have hbxne:=H1.out.2.2.1;have hxw:=HBk.out.acc.keep bxb _ _ _ hbxne dC (fun e=>HNe.out.2 e.symm);obtain⟨b7,hb7⟩:=eX wr.heap.size
   obtain⟨V1,hV1⟩:=eX (wr.alloc (.cells #[.int .i64 s.2.2.1.1,.int .i64 s.2.2.1.2] 35))
   have FV1:Fq wr V1:=by rw[<- hV1];exact (Fr.refl _ _).alloc _
   have g7:V1.heap[b7]?=some (.cells #[.int .i64 s.2.2.1.1,.int .i64 s.2.2.1.2] 35):=by rw[<- hV1,<- hb7];exact han _ _
   have HW2:=hid hV1;have HB7:=hid hb7;have HRd:=hid (fm0 (HBk.out.idx.fr0 FV1) (HR.out.1 s hsm) HS.out.2.2.1 HS.out.2.2.2.2 HS.out.2.2.2.1 oM);obtain⟨k0,k1,kz,kl⟩:=cells2 g7;have xx:=coh (FV1.heap hxw id) 0;simp at xx;have hxl:=loh (FV1.heap hxw id);have hacc1:Acc bo W1 V1:=HBk.out.acc.trans (gT0 FV1 HBk.out.acc.box);have hJ1:J pre V1:=gk0 hJ HBk.out.j FV1;have hI1:=HBk.out.idx.fr0 FV1;clear hs hsr hsm hb hc0 hc1 hcc hcw hbxne hxw hV1 hb7;gi_upto_region 4 with (fail)
   rw[HW2.out];rw[HB7.out];clear c0 c1 cl;have c0:=True.intro;have c1:=True.intro;have cl:=True.intro;have hr35:=vL0;rcases HBk.out.last with⟨hpre,hLw⟩|⟨z,hz,hLw,hTz⟩
   ·-- the first one
    have hq0:q=0:=(by have:=HBk.out.len;rw[hpre] at this;simpa using this.symm);have hqb:((q:Int) == 0)=true:=(by simp[hq0]);have hLV:=FV1.heap hLw id;obtain⟨l0,l1,l2,l3,l4,lz,ll⟩:=cells5 hLV;have HV1:=hi2 hJ1 (aI (aI hI1 hacc1) (aI hLV FV1));clear hJ1 hI1 hacc1 hLV hLw FV1 hpre hq0;gi_wp2_with (fail)
    refine (callsIn_wide.2 HRd.out).mono ?_;rintro e V2 ⟨r1,d1,p1,va,vn,vc,err,rfl,F2,⟨rfl,⟨rfl,rfl,rfl,rfl⟩,hown,hI2⟩|⟨_,ha,_⟩⟩;rotate_left
    ·cases ha
    obtain⟨vn,hvn⟩:=eX s.2.2.2.length
    rw[hvn];have hL2:=F2.heap HV1.out.2.2.1 dC;have HV2:=hi2 (hown) (aI hI2 (aI F2 (aI hvn hL2)));obtain⟨b8,hb8⟩:=eX V2.heap.size
    obtain⟨V3,hV3⟩:=eX (V2.alloc (.cells #[.int .i64 s.2.2.1.1,.int .i64 s.2.2.1.2,.int .i64 s.1,.int .i64 s.2.1,.slice va vn vc] 131))
    have g8:V3.heap[b8]?=some (.cells #[.int .i64 s.2.2.1.1,.int .i64 s.2.2.1.2,.int .i64 s.1,.int .i64 s.2.1,.slice va vn vc] 131):=(by rw[<- hV3,<- hb8];exact han _ _);have FV3:Fq V2 V3:=(by rw[<- hV3];exact (Fr.refl _ _).alloc _);have hL3:=FV3.heap hL2 id;have H3:=hi2 FV3 (aI hL3 g8);have HW3:=hid hV3;have HB8:=hid hb8;have hb8L:bL<b8:=(by have:=loh hL2;omega);clear hown hI2 F2 hvn hL2 hV3 g8 FV3 hL3 HRd hb8 c0 c1 cl k0 k1 kz kl l0 l1 l2 l3 l4 lz ll;gi_upto_region 6 with (fail)
    rw[HW3.out];rw[HB8.out];obtain⟨e0,e1,e2,e3,e4,ez,el⟩:=cells5 H3.out.2.2;obtain⟨l0,l1,l2,l3,l4,lz,ll⟩:=cells5 H3.out.2.1;gi_upto_region 9 with (fail)
    obtain⟨V,hV⟩:=eX (zk0 V3 bL (.int .i64 s.2.2.1.1) (.int .i64 s.2.2.1.2) (.int .i64 s.1) (.int .i64 s.2.1) (.slice va vn vc))
    rw[show ((((V3.setCell ⟨bL,0,none⟩ (.int .i64 s.2.2.1.1)).setCell ⟨bL,1,none⟩ (.int .i64 s.2.2.1.2)).setCell ⟨bL,2,none⟩ (.int .i64 s.1)).setCell ⟨bL,3,none⟩ (.int .i64 s.2.1)).setCell ⟨bL,4,none⟩ (.slice va vn vc)=V from hV];have FV:Fr (fun b=>b=bL) V3 V:=(by rw[<- hV];exact aT0 _ _ _ _ _ _ _);obtain⟨z,hz⟩:∃ z:Slt,(⟨s,va,vc⟩:Slt)=z:=⟨_,rfl⟩
    have HZ:=hi2 hz (show dn0 s.1 s.2.1 s.2.2.2 from HS.out.2.2.1);have hbox3:oT0 bo V3:=((HV1.out.2.1.2.trans (FrB.acc HV2.out.2.2.1 HV1.out.2.1.2.box)).trans (gT0 H3.out.1 (FrB.acc HV2.out.2.2.1 HV1.out.2.1.2.box).box)).box;have hacc3:Acc bo W1 V3:=(HV1.out.2.1.2.trans (FrB.acc HV2.out.2.2.1 HV1.out.2.1.2.box)).trans (gT0 H3.out.1 (FrB.acc HV2.out.2.2.1 HV1.out.2.1.2.box).box);have hptL:¬ PtB bo V3 bL:=fun h=>(hacc3.pt bL h).elim (fun h1=>by have:=H1.out.2.2.2;omega) (fun⟨u,hu,ho⟩=>by rw[H1.out.2.1] at hu;cases hu;cases ho)
    have hJ3:J pre V3:=gk0 hJ (hJR _ _ _ HV1.out.1 (.inl HV2.out.2.2.1)) H3.out.1;have hJV:J pre V:=hJR _ _ _ hJ3 (.inr (FV.mono fun b _ e=>by subst e;exact⟨by have:=H1.out.2.2.2;have:=HR.out.2.2.2.2;omega,⟨_,H3.out.2.1⟩,hptL⟩));have hLV:V.heap[bL]?=some (.cells #[.int .i64 s.2.2.1.1,.int .i64 s.2.2.1.2,.int .i64 s.1,.int .i64 s.2.1,.slice va s.2.2.2.length vc] 131):=(by rw[<- hV,HV2.out.2.2.2.1];exact cg0 H3.out.2.1 _ _ _ _ _);have hTV:BkT z V:=by
     rw[<- hz];refine⟨aS0 (own_base (oN HV2.out.1 H3.out.1)) FV (fun g' hg' e=>?_),HZ.out.2⟩;have h1:=(aW0 (oN HV2.out.1 H3.out.1) hg').1;have h2:=loh HV1.out.2.2.1;omega
    have HV:=hid (show J pre V/\(aD0 V B bx bd y P false (N+(q+1)) x au0 (t.slots g) L sp/\Acc bo W1 V)/\V.heap[bL]?=some (.cells #[.int .i64 s.2.2.1.1,.int .i64 s.2.2.1.2,.int .i64 s.1,.int .i64 s.2.1,.slice va s.2.2.2.length vc] 131)/\BkT z V from
     ⟨hJV,⟨(HV2.out.2.1.fr0 H3.out.1).an0 FV H3.out.2.1 dC (by have:=H1.out.2.2.2;have:=HR.out.2.2.2.2;omega),hacc3.trans (qk0 FV hbox3 (by have:=H1.out.2.2.2;have:=HR.out.2.2.2.2;omega) H3.out.2.1)⟩,hLV,hTV⟩)
    have HVn:=hid HV2.out.2.2.2.1;clear hV FV hz hbox3 hacc3 hptL hJ3 hJV hLV hTV e0 e1 e2 e3 e4 ez el l0 l1 l2 l3 l4 lz ll HW3 H3 HV2 HV1;rw[<- HVn.out];-- the yield
    have hGm:=HV.out.2.2.2;obtain⟨fn,tmps,assign,body,hy,hRR⟩:=hY pre z V HV.out.1 HV.out.2.2.2 (by rw[HBk.out.len];exact hlt);have hys:=hy;rw[<- HZ.out.1] at hy;dsimp only[encS] at hy;obtain⟨v0,v1,v2,v3,v4,vz,vl⟩:=cells5 HV.out.2.2.1;clear hys hGm;gi_wp2_with (fail)
    refine hRR.mono ?_;rintro e W3 (⟨rfl,hJ3,hk3⟩|⟨rfl,hJx3⟩)
    ·have hpt:∀ g',PtB bo V g'->W1.heap.size<=g':=fun g' h=>(HV.out.2.1.2.pt g' h).elim id (fun⟨u,hu,ho⟩=>by rw[H1.out.2.1] at hu;cases hu;cases ho)
     have hI3:=HV.out.2.1.1.kpO hk3 HR.out.2.2.1 ⟨HV.out.2.1.2.box,HR.out.2.2.2.1⟩ (fun g' h=>by have:=hpt g' h;have:=H1.out.2.2.2;omega) (by have:=HR.out.2.2.2.2;omega);have hA3:=HV.out.2.1.2.trans (hk3.acc HV.out.2.1.2.box);have hL3:W3.heap[bL]?=some (.cells (mP0 z.s z.va z.vc) 131):=hk3.keep bL _ (by rw[<- HZ.out.1];exact HV.out.2.2.1) (fun e=>by have:=H1.out.2.2.2;have:=HR.out.2.2.2.2;omega) (fun⟨hp,_⟩=>by have:=hpt bL hp;have:=H1.out.2.2.2;omega) (.inr rfl);have hT3:BkT z W3:=⟨hk3.own HV.out.2.2.2.1 dC HV.out.2.1.2.box,HV.out.2.2.2.2⟩;have H3:=hid (show BkI B bx bd y P N x au0 t g L sp bo bL W1 J (q+1) (pre++[z]) W3 from⟨hJ3,dw0 HS.out.1 HBk.out.map z (by rw[<- HZ.out.1]),by rw[lA,HBk.out.len];rfl,hI3,hA3,.inr ⟨z,by simp,hL3,hT3⟩⟩);clear hJ3 hk3 hpt hI3 hA3 hL3 hT3 v0 v1 v2 v3 v4 vz vl;gi_wp2
     go_roundw;case rel=>exact⟨q+1,pre++[z],hlt,by go_num,H3.out⟩
     case measure=>simp[intOf];omega
    ·have HJX:=hid hJx3;clear hJx3 v0 v1 v2 v3 v4 vz vl;gi_wp2
     refine bodyPost_ret (results_none rfl _ _ _) rfl ?_;exact⟨⟨_,rfl⟩,.inr ⟨_,trivial,HJX.out⟩⟩
   ·have hq0:¬ q=0:=fun e=>by
     have:=HBk.out.len;rw[e] at this;rw[lH9 this] at hz;cases hz
    have hqb:((q:Int) == 0)=false:=sO;have hzm:z.s ∈ lvs t 0 0:=by
     have h1:z.s ∈ pre.map (·.s):=ld9.2 ⟨z,List.mem_of_getLast? hz,rfl⟩;rw[HBk.out.map] at h1;exact dG0 _ _ _ _ _ (lR9 h1)
    have hLV:=FV1.heap hLw id;by_cases hsz:s=z.s
    ·obtain⟨zs,va,vc⟩:=z;simp only at hsz;subst hsz;obtain⟨l0,l1,l2,l3,l4,lz,ll⟩:=cells5 hLV;have hT1:BkT ⟨s,va,vc⟩ V1:=⟨oN hTz.1 FV1,hTz.2⟩;have HTz:=hid hT1;have HV1:=hi2 hJ1 (aI (aI hI1 hacc1) (aI hLV FV1));obtain⟨z,hz'⟩:∃ z:Slt,(⟨s,va,vc⟩:Slt)=z:=⟨_,rfl⟩
     have HZ:=hi2 hz' (show dn0 s.1 s.2.1 s.2.2.2 from HS.out.2.2.1);rw[hz'] at HTz;have hne:(!(decide (s.2.2.1.1=s.2.2.1.1) && decide (s.2.2.1.2=s.2.2.1.2)))=false:=sP;clear hT1 hz' hJ1 hI1 hacc1 hLV hLw FV1 hTz hz hzm;gi_upto_region 9 with (fail)
     obtain⟨V,rfl⟩:=xe V1
     have HV:=hid (show J pre V/\(aD0 V B bx bd y P false (N+(q+1)) x au0 (t.slots g) L sp/\Acc bo W1 V)/\V.heap[bL]?=some (.cells #[.int .i64 s.2.2.1.1,.int .i64 s.2.2.1.2,.int .i64 s.1,.int .i64 s.2.1,.slice va s.2.2.2.length vc] 131)/\BkT z V from
      ⟨HV1.out.1,⟨HV1.out.2.1.1.mono oM oM,HV1.out.2.1.2⟩,HV1.out.2.2.1,HTz.out⟩)
     clear c0 c1 cl k0 k1 kz kl l0 l1 l2 l3 l4 lz ll HRd;-- the yield
     have hGm:=HV.out.2.2.2;obtain⟨fn,tmps,assign,body,hy,hRR⟩:=hY pre z V HV.out.1 HV.out.2.2.2 (by rw[HBk.out.len];exact hlt);have hys:=hy;rw[<- HZ.out.1] at hy;dsimp only[encS] at hy;obtain⟨v0,v1,v2,v3,v4,vz,vl⟩:=cells5 HV.out.2.2.1;clear hys hGm;gi_wp2_with (fail)
     refine hRR.mono ?_;rintro e W3 (⟨rfl,hJ3,hk3⟩|⟨rfl,hJx3⟩)
     ·have hpt:∀ g',PtB bo V g'->W1.heap.size<=g':=fun g' h=>(HV.out.2.1.2.pt g' h).elim id (fun⟨u,hu,ho⟩=>by rw[H1.out.2.1] at hu;cases hu;cases ho)
      have hI3:=HV.out.2.1.1.kpO hk3 HR.out.2.2.1 ⟨HV.out.2.1.2.box,HR.out.2.2.2.1⟩ (fun g' h=>by have:=hpt g' h;have:=H1.out.2.2.2;omega) (by have:=HR.out.2.2.2.2;omega);have hA3:=HV.out.2.1.2.trans (hk3.acc HV.out.2.1.2.box);have hL3:W3.heap[bL]?=some (.cells (mP0 z.s z.va z.vc) 131):=hk3.keep bL _ (by rw[<- HZ.out.1];exact HV.out.2.2.1) (fun e=>by have:=H1.out.2.2.2;have:=HR.out.2.2.2.2;omega) (fun⟨hp,_⟩=>by have:=hpt bL hp;have:=H1.out.2.2.2;omega) (.inr rfl);have hT3:BkT z W3:=⟨hk3.own HV.out.2.2.2.1 dC HV.out.2.1.2.box,HV.out.2.2.2.2⟩;have H3:=hid (show BkI B bx bd y P N x au0 t g L sp bo bL W1 J (q+1) (pre++[z]) W3 from⟨hJ3,dw0 HS.out.1 HBk.out.map z (by rw[<- HZ.out.1]),by rw[lA,HBk.out.len];rfl,hI3,hA3,.inr ⟨z,by simp,hL3,hT3⟩⟩);clear hJ3 hk3 hpt hI3 hA3 hL3 hT3 v0 v1 v2 v3 v4 vz vl;gi_wp2
      go_roundw;case rel=>exact⟨q+1,pre++[z],hlt,by go_num,H3.out⟩
      case measure=>simp[intOf];omega
     ·have HJX:=hid hJx3;clear hJx3 v0 v1 v2 v3 v4 vz vl;gi_wp2
      refine bodyPost_ret (results_none rfl _ _ _) rfl ?_;exact⟨⟨_,rfl⟩,.inr ⟨_,trivial,HJX.out⟩⟩
    ·have hrr:¬ s.2.2.1=z.s.2.2.1:=fun e=>hsz (HInj.out s z.s HS.out.2.1 hzm e)
     obtain⟨⟨zd,zp,⟨za,zb⟩,zes⟩,zva,zvc⟩:=z;simp only at hrr;have hne:(!(decide (s.2.2.1.1=za) && decide (s.2.2.1.2=zb)))=true:=by
      by_cases h1:s.2.2.1.1=za
      ·by_cases h2:s.2.2.1.2=zb
       ·exact absurd (Prod.ext h1 h2) hrr
       ·simp[h2]
      ·simp[h1]
     obtain⟨l0,l1,l2,l3,l4,lz,ll⟩:=cells5 hLV;have HV1:=hi2 hJ1 (aI (aI hI1 hacc1) (aI hLV FV1));clear hJ1 hI1 hacc1 hLV hLw FV1 hTz hz hzm hsz hrr;gi_wp2_with (fail)
     refine (callsIn_wide.2 HRd.out).mono ?_;rintro e V2 ⟨r1,d1,p1,va,vn,vc,err,rfl,F2,⟨rfl,⟨rfl,rfl,rfl,rfl⟩,hown,hI2⟩|⟨_,ha,_⟩⟩;rotate_left
     ·cases ha
     obtain⟨vn,hvn⟩:=eX s.2.2.2.length
     rw[hvn];have hL2:=F2.heap HV1.out.2.2.1 dC;have HV2:=hi2 (hown) (aI hI2 (aI F2 (aI hvn hL2)));obtain⟨b8,hb8⟩:=eX V2.heap.size
     obtain⟨V3,hV3⟩:=eX (V2.alloc (.cells #[.int .i64 s.2.2.1.1,.int .i64 s.2.2.1.2,.int .i64 s.1,.int .i64 s.2.1,.slice va vn vc] 131))
     have g8:V3.heap[b8]?=some (.cells #[.int .i64 s.2.2.1.1,.int .i64 s.2.2.1.2,.int .i64 s.1,.int .i64 s.2.1,.slice va vn vc] 131):=(by rw[<- hV3,<- hb8];exact han _ _);have FV3:Fq V2 V3:=(by rw[<- hV3];exact (Fr.refl _ _).alloc _);have hL3:=FV3.heap hL2 id;have H3:=hi2 FV3 (aI hL3 g8);have HW3:=hid hV3;have HB8:=hid hb8;have hb8L:bL<b8:=(by have:=loh hL2;omega);clear hown hI2 F2 hvn hL2 hV3 g8 FV3 hL3 HRd hb8 c0 c1 cl k0 k1 kz kl l0 l1 l2 l3 l4 lz ll;gi_upto_region 6 with (fail)
     rw[HW3.out];rw[HB8.out];obtain⟨e0,e1,e2,e3,e4,ez,el⟩:=cells5 H3.out.2.2;obtain⟨l0,l1,l2,l3,l4,lz,ll⟩:=cells5 H3.out.2.1;gi_upto_region 9 with (fail)
     obtain⟨V,hV⟩:=eX (zk0 V3 bL (.int .i64 s.2.2.1.1) (.int .i64 s.2.2.1.2) (.int .i64 s.1) (.int .i64 s.2.1) (.slice va vn vc))
     rw[show ((((V3.setCell ⟨bL,0,none⟩ (.int .i64 s.2.2.1.1)).setCell ⟨bL,1,none⟩ (.int .i64 s.2.2.1.2)).setCell ⟨bL,2,none⟩ (.int .i64 s.1)).setCell ⟨bL,3,none⟩ (.int .i64 s.2.1)).setCell ⟨bL,4,none⟩ (.slice va vn vc)=V from hV];have FV:Fr (fun b=>b=bL) V3 V:=(by rw[<- hV];exact aT0 _ _ _ _ _ _ _);obtain⟨z,hz⟩:∃ z:Slt,(⟨s,va,vc⟩:Slt)=z:=⟨_,rfl⟩
     have HZ:=hi2 hz (show dn0 s.1 s.2.1 s.2.2.2 from HS.out.2.2.1);have hbox3:oT0 bo V3:=((HV1.out.2.1.2.trans (FrB.acc HV2.out.2.2.1 HV1.out.2.1.2.box)).trans (gT0 H3.out.1 (FrB.acc HV2.out.2.2.1 HV1.out.2.1.2.box).box)).box;have hacc3:Acc bo W1 V3:=(HV1.out.2.1.2.trans (FrB.acc HV2.out.2.2.1 HV1.out.2.1.2.box)).trans (gT0 H3.out.1 (FrB.acc HV2.out.2.2.1 HV1.out.2.1.2.box).box);have hptL:¬ PtB bo V3 bL:=fun h=>(hacc3.pt bL h).elim (fun h1=>by have:=H1.out.2.2.2;omega) (fun⟨u,hu,ho⟩=>by rw[H1.out.2.1] at hu;cases hu;cases ho)
     have hJ3:J pre V3:=gk0 hJ (hJR _ _ _ HV1.out.1 (.inl HV2.out.2.2.1)) H3.out.1;have hJV:J pre V:=hJR _ _ _ hJ3 (.inr (FV.mono fun b _ e=>by subst e;exact⟨by have:=H1.out.2.2.2;have:=HR.out.2.2.2.2;omega,⟨_,H3.out.2.1⟩,hptL⟩));have hLV:V.heap[bL]?=some (.cells #[.int .i64 s.2.2.1.1,.int .i64 s.2.2.1.2,.int .i64 s.1,.int .i64 s.2.1,.slice va s.2.2.2.length vc] 131):=(by rw[<- hV,HV2.out.2.2.2.1];exact cg0 H3.out.2.1 _ _ _ _ _);have hTV:BkT z V:=by
      rw[<- hz];refine⟨aS0 (own_base (oN HV2.out.1 H3.out.1)) FV (fun g' hg' e=>?_),HZ.out.2⟩;have h1:=(aW0 (oN HV2.out.1 H3.out.1) hg').1;have h2:=loh HV1.out.2.2.1;omega
     have HV:=hid (show J pre V/\(aD0 V B bx bd y P false (N+(q+1)) x au0 (t.slots g) L sp/\Acc bo W1 V)/\V.heap[bL]?=some (.cells #[.int .i64 s.2.2.1.1,.int .i64 s.2.2.1.2,.int .i64 s.1,.int .i64 s.2.1,.slice va s.2.2.2.length vc] 131)/\BkT z V from
      ⟨hJV,⟨(HV2.out.2.1.fr0 H3.out.1).an0 FV H3.out.2.1 dC (by have:=H1.out.2.2.2;have:=HR.out.2.2.2.2;omega),hacc3.trans (qk0 FV hbox3 (by have:=H1.out.2.2.2;have:=HR.out.2.2.2.2;omega) H3.out.2.1)⟩,hLV,hTV⟩)
     have HVn:=hid HV2.out.2.2.2.1;clear hV FV hz hbox3 hacc3 hptL hJ3 hJV hLV hTV e0 e1 e2 e3 e4 ez el l0 l1 l2 l3 l4 lz ll HW3 H3 HV2 HV1;rw[<- HVn.out];-- the yield
     have hGm:=HV.out.2.2.2;obtain⟨fn,tmps,assign,body,hy,hRR⟩:=hY pre z V HV.out.1 HV.out.2.2.2 (by rw[HBk.out.len];exact hlt);have hys:=hy;rw[<- HZ.out.1] at hy;dsimp only[encS] at hy;obtain⟨v0,v1,v2,v3,v4,vz,vl⟩:=cells5 HV.out.2.2.1;clear hys hGm;gi_wp2_with (fail)
     refine hRR.mono ?_;rintro e W3 (⟨rfl,hJ3,hk3⟩|⟨rfl,hJx3⟩)
     ·have hpt:∀ g',PtB bo V g'->W1.heap.size<=g':=fun g' h=>(HV.out.2.1.2.pt g' h).elim id (fun⟨u,hu,ho⟩=>by rw[H1.out.2.1] at hu;cases hu;cases ho)
      have hI3:=HV.out.2.1.1.kpO hk3 HR.out.2.2.1 ⟨HV.out.2.1.2.box,HR.out.2.2.2.1⟩ (fun g' h=>by have:=hpt g' h;have:=H1.out.2.2.2;omega) (by have:=HR.out.2.2.2.2;omega);have hA3:=HV.out.2.1.2.trans (hk3.acc HV.out.2.1.2.box);have hL3:W3.heap[bL]?=some (.cells (mP0 z.s z.va z.vc) 131):=hk3.keep bL _ (by rw[<- HZ.out.1];exact HV.out.2.2.1) (fun e=>by have:=H1.out.2.2.2;have:=HR.out.2.2.2.2;omega) (fun⟨hp,_⟩=>by have:=hpt bL hp;have:=H1.out.2.2.2;omega) (.inr rfl);have hT3:BkT z W3:=⟨hk3.own HV.out.2.2.2.1 dC HV.out.2.1.2.box,HV.out.2.2.2.2⟩;have H3:=hid (show BkI B bx bd y P N x au0 t g L sp bo bL W1 J (q+1) (pre++[z]) W3 from⟨hJ3,dw0 HS.out.1 HBk.out.map z (by rw[<- HZ.out.1]),by rw[lA,HBk.out.len];rfl,hI3,hA3,.inr ⟨z,by simp,hL3,hT3⟩⟩);clear hJ3 hk3 hpt hI3 hA3 hL3 hT3 v0 v1 v2 v3 v4 vz vl;gi_wp2
      go_roundw;case rel=>exact⟨q+1,pre++[z],hlt,by go_num,H3.out⟩
      case measure=>simp[intOf];omega
     ·have HJX:=hid hJx3;clear hJx3 v0 v1 v2 v3 v4 vz vl;gi_wp2
      refine bodyPost_ret (results_none rfl _ _ _) rfl ?_;exact⟨⟨_,rfl⟩,.inr ⟨_,trivial,HJX.out⟩⟩
  ·obtain rfl:q=n:=by omega
   have hdq:decide ((q:Int)<(q:Int))=false:=by simp
   gi_wp2
   go_end0
   exact⟨⟨_,rfl⟩,.inl ⟨pre,by rw[HBk.out.map,tL (ll9 HLen.out)],HBk.out.j,HBk.out.idx.mono oM hN⟩⟩
end
section
open Go.Proofs Go.RowKit Go.Sg Go.Shelf CP SF
attribute [local go_sem] Oper.semAt_some
abbrev bE0 (z:Slt):List Value:=[.int .i64 z.s.2.2.1.1,.int .i64 z.s.2.2.1.2,.int .i64 z.s.1,.int .i64 z.s.2.1,.slice z.va z.s.2.2.2.length z.vc]
def ya0 (B:Blk)(bx bd:Nat)(y:Cs)(P:aC0)(N:Nat)(x:aL0)(t:Tr)(sp:Int)(w:World)(e:Ending)(w':World):Prop:=
 ∃ (v:Value) (zs:List Slt),e = .returned (.tuple #[v,.int .i64 0])/\FrB B w w'/\w'.ownsRow w.heap.size 131 5 v zs.length (zs.flatMap bE0)/\zs.map (·.s)=bP0 t x.depth 0 0/\(∀ z ∈ zs,BkT z w')/\fk0 w' B bx bd y P false N x t sp
structure zX0 (w:World)(B:Blk)(m be bo:Nat)(pre:List Slt)(W:World):Prop where
 ex:∃ (v:Value) (zs:List Slt),W.heap[bo]?=some (.cells #[v] 124)/\W.ownsRow m 131 5 v zs.length (zs.flatMap bE0)/\zs.map (·.s)=pre.map (·.s)/\∀ z ∈ zs,BkT z W
 er:W.heap[be]?=some (.cells #[.int .i64 0] 24)
 fr:FrB B w W
variable {S:Nat->Prop}{W W' w:World}{be bo m:Nat}{v:Value}
theorem fN0 {z:Slt}(h:BkT z W)(F:Fr S W W')(hS:∀ g c,W.heap[g]?=some (.cells c 118)->¬ S g):BkT z W':=⟨oRf h.1 F hS,h.2⟩
variable {B:Blk}
theorem oe0 (hm:w.heap.size<=m):OwnFrom m (zX0 w B m be bo):=
 in0 (fun pre W W' h F=>by
   obtain⟨v,zs,h1,h2,h3,h4⟩:=h.ex;exact⟨⟨v,zs,F.heap h1 id,oRf h2 F (fun _ _ _ h=>h),h3,fun z hz=>fN0 (h4 z hz) F (fun _ _ _ h=>h)⟩,F.heap h.er id,h.fr.trans (FrB.none F)⟩)
  (fun pre W W' k h F hk hc=>by
   have n1:∀ b cs t f,W.heap[b]?=some (.cells cs t f)->¬ b=k:=fun b cs t f hb e=>by rw[e] at hb;exact hc _ _ _ hb
   obtain⟨v,zs,h1,h2,h3,h4⟩:=h.ex;exact⟨⟨v,zs,F.heap h1 (n1 _ _ _ _ h1),oRf h2 F (fun g c hg e=>n1 _ _ _ _ hg e),h3,fun z hz=>fN0 (h4 z hz) F (fun g c hg e=>n1 _ _ _ _ hg e)⟩,F.heap h.er (n1 _ _ _ _ h.er),rx0 h.fr F oM⟩)
theorem sR0 (hm:w.heap.size<=m)(pre:List Slt)(A C:World)(h:zX0 w B m be bo pre A)(hR:RSt B m bo A C):zX0 w B m be bo pre C:=by
 obtain⟨v,zs,h1,h2,h3,h4⟩:=h.ex;rcases hR with F|F
 ·exact⟨⟨v,zs,F.heap h1 dC,fX0 h2 dC F,h3,fun z hz=>fN0 (h4 z hz) F (fun g c hg hs=>absurd (hs.2.1 c 118 _ hg) dC)⟩,F.heap h.er dC,h.fr.trans F⟩
 ·refine⟨⟨v,zs,F.heap h1 (fun hs=>?_),aS0 h2 F (fun g hg hs=>hs.2.2 ⟨v,h1,hg⟩),h3,fun z hz=>fN0 (h4 z hz) F (fun g c hg hs=>?_)⟩,F.heap h.er (fun hs=>?_),Fr.trans h.fr F fun b hb hs=>oM⟩
  ·obtain⟨-,⟨c,e⟩,-⟩:=hs;rw[h1] at e;cases e
  ·obtain⟨-,⟨c',e⟩,-⟩:=hs;rw[hg] at e;cases e
  ·obtain⟨-,⟨c',e⟩,-⟩:=hs;rw[h.er] at e;cases e
theorem RSt.keep (hlt:∀ r,B.at_ r<m)(A C:World)(b:Nat)(o:Obj)(hR:RSt B m bo A C)(hb:m<=b)(ho:A.heap[b]?=some o)(hc:o.isCells=false):C.heap[b]?=some o:=by
 rcases hR with F|F
 ·exact (FrB.keeps F hlt).same _ _ hb ho hc
 ·exact F.heap ho fun hs=>by obtain⟨-,⟨c,e⟩,-⟩:=hs;rw[ho] at e;cases e;cases hc
theorem pg0 {l:Nat}{o o':Obj}(hb:bo<m)(hl:m<=l)(ho:W.heap[l]?=some o)(hc:o.isCells=false):KpO m bo W (W.putObj l o'):=by
 refine⟨rfl,rfl,rfl,by rw[iX0];exact nR _,fun b o1 h1 _ _ h2=>?_,fun g ⟨v,hv,hg⟩=>?_,fun⟨v,hv⟩=>⟨v,?_⟩⟩
 ·have hne:l≠b:=fun e=>by
   subst e;rcases h2 with h2|h2
   ·omega
   ·rw[ho] at h1;cases h1;rw[hc] at h2;cases h2
  rw[hpj _ _ _ _ hne];exact h1
 ·rw[hpj _ _ _ _ oM] at hv;exact .inr ⟨v,hv,hg⟩
 ·rw[hpj _ _ _ _ oM];exact hv
theorem ri0 (h:oT0 bo W)(o:Obj):KpO m bo W (W.alloc o):=by
 obtain⟨v,hv⟩:=h;have F:Fq W (W.alloc o):=(Fr.refl _ _).alloc o;have hv':=F.heap hv id;refine⟨F.os,F.tape,F.output,F.size,fun b o1 h1 _ _ _=>F.heap h1 id,fun g ⟨u,hu,hg⟩=>?_,fun _=>⟨v,hv'⟩⟩;rw[hv'] at hu;cases hu;exact .inr ⟨v,hv,hg⟩
theorem sO0 {n:Nat}{R:Ending->World->Prop}{tmps:Array Value}{DD:Nat}(hK:W.heap[DD]?=some (.deferred (some [])))(hR:R (.returned (.tuple #[v,.int .i64 0])) (W.putObj DD (.deferred none)))(t2:tmps.getD 2 undef=v)(t3:tmps.getD 3 undef = .int .i64 0) :
  bodyPostM Fence.wide n Tryz.prog Tryz.f71 R .ret { tmps:=tmps,defers:=[{ target:=.collected DD,args:=#[] }] } W:=by
 refine⟨by simp,.inl ⟨_,_,rfl,run_takeDeferred hK,_,?_,hR⟩⟩;rw[mk9] at t2 t3;simp[results,Tryz.results71,go_sem,t2,t3]
theorem rw0 {d p:Nat}{es:List Bt}(h:dn0 d p es):es.filter (ak0 0)=es:=by
 rw[mI9];intro x hx;have:=(h.2.2 x hx).1.2.1.1;simpa[ak0] using this
theorem eC0 (W:World)(b j:Nat)(v:Value):Fr (fun k=>k=b) W (W.setCell ⟨b,j,none⟩ v):=(Fr.refl (fun k=>k=b) W).setCell (a:=⟨b,_,none⟩) (fun _=>rfl) _
theorem cr0 {w':World}{row:Option Nat}(h:w.grownBy w' row):Fr (fun b=>row=some b) w w':=⟨h.os,h.tape,h.output,h.size,fun b hb hn=>h.block b hb (fun e=>hn e.symm)⟩
theorem jB0 (F:Fr S W W')(h:∀ b o,W.heap[b]?=some o->o.isCells=false->¬ S b):KeepsFrom m W W':=⟨F.size,fun k o _ ho hc=>F.heap ho (h k o ho hc)⟩
theorem ownsRow_nil' (W:World)(b e s:Nat):W.ownsRow b e s (.slice none 0 0) 0 []:=⟨by simp,.inl ⟨rfl,rfl⟩⟩
theorem Tryz.wL0:(Tryz.prog.info? 131).map (fun i=>(i.zero,i.size,i.bytes))=some (some (.agg #[.int .i64 0,.int .i64 0,.int .i64 0,.int .i64 0,.slice none 0 0]),5,56):=by kernel_rfl
theorem jA0 {V:World}{v':Value}(hm:bo<m)(hv:W.heap[bo]?=some (.cells #[v] 124))(hv':V.heap[bo]?=some (.cells #[v'] 124))(F:Fr (fun b=>b=bo\/Az0 bo W b) W V)(hp:∀ g,v'.ownBlock=some g->W.heap.size<=g\/v.ownBlock=some g):KpO m bo W V:=
 ⟨F.os,F.tape,F.output,F.size,fun b o hb hne hno _=>F.heap hb (fun hs=>hs.elim hne hno),fun g ⟨u,hu,hg⟩=>by
  rw[hv'] at hu;cases hu;exact (hp g hg).imp id fun h=>⟨v,hv,h⟩,fun _=>⟨v',hv'⟩⟩
theorem cy0 {P:Program}{o:Oper}{a:Act}{K:Act->World->Prop}{Q:Exit->Act->World->Prop}(hgd:o.guard=none)(s x:Operand)(t:TypeId)
  (ho:o.op = .call { callee:=.builtin .append,args:=#[s,x],argTypes:=#[t,t] }) (base:Nat) (e:TypeId) (i:TypeInfo) (z:Value) (size bytes:Nat) (ht:P.underlying t=some (.slice e)) (hi:P.info? e=some i) (hz:i.zero=some z)
  (hsize:i.size=size) (hby:i.bytes=bytes) (hzs:z.cells.size=size) (hsz:0<size) (v:Value) (n:Nat) (xs:List Value) (hs:a.eval s=v) (hown:w.ownsRow base e size v n xs)
  (ad:Addr) (m c:Nat) (news:List Value) (hx:a.eval x = .slice (some ad) m c) (hc:∀ j u,news[j]?=some u->w.cell? (ad.add j)=some u) (hl:news.length=m*size) (h1:∀ u ∈ news,u.oneCell'=true) (h63:n+m<=maxLen) (hbytes:(n+m)*bytes<=140737488355328) (hbase:base<=w.heap.size)
  (h:∀ v' w',w'.ownsRow base e size v' (n+m) (xs++news)->w.grownBy w' v.ownBlock->(v'.ownBlock=v.ownBlock\/v'.ownBlock=some w.heap.size)->K (a.put o.dst v') w'):Oper.wp P o a w K Q:=by
 obtain⟨v',w',hr,h2,h3,h4,h5⟩:=run_append_own_at (P:=P) w base t o.type e i z size bytes ht hi hz hsize hby hzs hsz v n xs hown ad m c news hl hc h1 h63 hbytes hbase;unfold Oper.wp execOp;simp only[ho,resolve,invoke,builtin,Sem.run_bind,Sem.run_pure,Result.andThen_ok,nv9,mj9,mH9,hs,hx,hr];exact h v' w' h2 h3 h5
theorem lJ0 {bx bd:Nat}{y:Cs}{P:aC0}{N:Nat}{x:aL0}{t:Tr}{sp:Int}(h:fk0 w B bx bd y P false N x t sp)(hN:N+12<=90000) :
  Calls Tryz.prog 71 #[cG0 bx] w (ya0 B bx bd y P (N+12) x t sp w):=by
 refine (callsIn_wide (n:=10)).1 ?_;obtain⟨au0,L,hM,hP⟩:=h.ex;have hsm:=hM.small;have hleaf:=kx0 hM.per hM.c.z.most.1;have HAll:=hid (show Calls Tryz.prog 48 #[cR0 bd] w (Aq0 B y P false (N+4) (t.slots x.depth) w) from (vZ0 hM.st hM.dir hM.c oM).mono (by
  rintro e w' ⟨v,err,he,F,⟨h0,ho,hS⟩|⟨_,ha,_⟩⟩
  ·exact⟨v,err,he,F,.inl ⟨h0,ho,hS.mono oM oM⟩⟩
  ·cases ha))
 obtain⟨n,hn⟩:=eX (2^x.depth)
 have hsl:(t.slots x.depth).length=n:=by rw[Tr.ba0 t _ (ll9 h.high),hn]
 have HT:=hi2 h (aI hM (aI hP (aI hn hsl)));have HLt:=hid (fun r=>hM.st.roles r);obtain⟨i0,i1,i2,i3,i4,iz,il⟩:=cells5 (show cn0 w bx B.s bd 3 3 sp from hM.idx);have h0:0<w.heap.size:=by have:=hM.gR0;omega
 obtain⟨jt0,hjt,jz0,jz1,jz2⟩:=info_parts Tryz.wL0;have HInf:=hi2 hjt (aI jz0 (aI jz1 jz2));clear h hM hP hsm hleaf hn hsl hjt jz0 jz1 jz2;refine callsIn_of_wp_marks Tryz.func71 rfl trivial ?_ rfl;simp only[Tryz.ntmps71,zA,lC,lz9,Nat.reduceAdd,Nat.reduceSub,lq9,lr9,ly9,ls9,le9,lo9];gi_wp2_with (fail)
 refine (callsIn_wide.2 HAll.out).mono ?_;rintro e w1 ⟨v1,err,rfl,F1,⟨rfl,hown,hS1⟩|⟨_,ha,_⟩⟩;rotate_left
 ·cases ha
 obtain⟨la,lc,rfl,hrow⟩:=by0 hown;rw[HT.out.2.2.2.2];have hM1:aD0 w1 B bx bd y P false (N+4) x au0 (t.slots x.depth) L sp:=HT.out.2.1.frB F1 hS1;have HM1:=hi2 hM1 (aI hrow F1);have hsz1:=F1.size;clear hown hS1 hrow hM1 i0 i1 i2 i3 i4 iz il F1 HAll;obtain⟨be,hbe⟩:=eX w1.heap.size
 obtain⟨w2,hw2⟩:=eX ((w1.alloc (.cells #[.int .i64 0] 24)).alloc (.cells #[.slice none 0 0] 124))
 have H2:=hi2 hw2 trivial;have HBe:=hid hbe;clear hw2;gi_wp2_with (fail)
 clear hbe;rw[H2.out.1];refine (callsIn_wide.2 (oL0 bx la n lc be w2)).mono ?_;rintro e W0 ⟨rfl,hW0⟩;obtain⟨pxb,plb,peb,F0⟩:=aO0 hW0;obtain⟨pbe,pbo,F2⟩:=ai0 H2.out.1;have hs2:w2.heap.size=be+2:=by rw[<- H2.out.1];simp[HBe.out]
 have hs0:W0.heap.size=be+5:=by rw[<- hW0];simp[hs2]
 have F02:=F2.trans F0 nI;have F00:FrB B w W0:=FrB.trans HM1.out.2.2 (FrB.none F02);rw[HBe.out] at pbe pbo;have pbe0:=F0.heap pbe id;have pbo0:=F0.heap pbo id;have hI0:=HM1.out.1.fr0 F02;have hlt:∀ r,B.at_ r<W0.heap.size:=fun r=>by have:=HLt.out r;have:=HM1.out.2.2.size;have:=HBe.out;omega
 have hwW:w.heap.size<=W0.heap.size:=F00.size;have hwbe:w.heap.size<=be:=by have:=HM1.out.2.2.size;have:=HBe.out;omega
 have h00:0<W0.heap.size:=oM
 obtain⟨m,hm⟩:=eX W0.heap.size
 have HW0:=hid hm;have HSz:=hi2 hs2 hs0;clear hW0 hs2 hs0 hm;gi_wp2_with (fail)
 obtain⟨hs2,hs0⟩:=HSz.out;refine iI0 (F:=Fence.wide) rfl oM (gf:=202) (lb:=#[.pointer (some ⟨w2.heap.size+1,0,none⟩),.pointer (some ⟨w2.heap.size,0,none⟩),.pointer (some ⟨w2.heap.size+2,0,none⟩)]) rfl trivial (enters_of Tryz.func202 kF rfl)
  (zX0 w B W0.heap.size be (be+1))
  (tZ0 (w:=W0) (beb:=w2.heap.size+2) hI0 HT.out.2.2.1 HT.out.1.ok (ll9 HT.out.1.high) HT.out.1.depth HT.out.2.2.2.1 pxb plb (HM1.out.2.1.fr0 F02) pbo0 oM oM)
  (fun pre A C h hR=>sR0 hwW pre A C h hR) (fun A C b o hR hb ho hc=>RSt.keep hlt A C b o hR hb ho hc)
  (fun W l o o' hl ho hc _ hE=>hE.AC0 hl hlt h00 ho hc)
  (fun h k=>h.trans k) (fun W l o o' hl ho hc _=>pg0 oM hl ho hc) (Below.refl _ _) (fun _=>rfl)
  (fun _ _ _=>False) (oe0 hwW) (fun _ _ _ _ _ h _ _=>h.elim) ⟨⟨.slice none 0 0,[],pbo0,ownsRow_nil' _ _ _ _,rfl,by simp⟩,pbe0,F00⟩
  (fun z a' W=>(∃ b7:Nat,W.heap[b7]?=some (.cells (mP0 z.s z.va z.vc) 131)/\(∃ v:Value,W.heap[be+1]?=some (.cells #[v] 124)/\v.ownBlock≠some b7)/\BkT z W/\a'={ tmps:=#[cG0 bx,undef,.slice none 0 0,.int .i64 0,.slice la n lc,.pointer (some ⟨be,0,none⟩),.pointer (some ⟨be+1,0,none⟩),.pointer (some ⟨b7,0,none⟩),cG0 bx,.bool false,.tuple #[.slice la n lc,.int .i64 0],cG0 bx,.pointer (some ⟨bx,0,none⟩),.pointer (some ⟨bx,1,none⟩),.pointer (some ⟨bd,0,none⟩),.tuple #[.slice la n lc,.int .i64 0],.slice la n lc,.int .i64 0,.int .i64 0,.bool false,undef,cG0 bx,.slice la n lc,.func (.func 202) #[] #[.pointer (some ⟨w2.heap.size+1,0,none⟩),.pointer (some ⟨w2.heap.size,0,none⟩),.pointer (some ⟨w2.heap.size+2,0,none⟩)],eh0 z.s.2.2.1 z.s.1 z.s.2.1 (.slice z.va z.s.2.2.2.length z.vc),undef,undef,undef,undef,undef,undef,undef,undef,undef,undef,undef,undef,undef],defers:=[] }))
  (fun z a'=>in0 (fun _ W W' h F=>by
    obtain⟨b7,g1,⟨v,g2,g3⟩,g4,g5⟩:=h;exact⟨b7,F.heap g1 id,⟨v,F.heap g2 id,g3⟩,fN0 g4 F (fun _ _ _ h=>h),g5⟩)
   (fun _ W W' k h F hk hc=>by
    obtain⟨b7,g1,⟨v,g2,g3⟩,g4,g5⟩:=h;have n1:∀ b cs t f,W.heap[b]?=some (.cells cs t f)->¬ b=k:=fun b cs t f hb e=>by rw[e] at hb;exact hc _ _ _ hb
    exact⟨b7,F.heap g1 (n1 _ _ _ _ g1),⟨v,F.heap g2 (n1 _ _ _ _ g2),g3⟩,fN0 g4 F (fun g c hg e=>n1 _ _ _ _ hg e),g5⟩))
  ?assign ?body ?done ?stop
 case assign =>
  rintro lp pre ⟨s,va,vc⟩ W K' hI hT hK;have HI:=hi2 hI hT;have HK:=hid hK;clear hI hT hK hs2 hs0 pxb plb peb pbe pbo pbe0 pbo0;gi_wp2
  obtain⟨hI,hT⟩:=HI.out;obtain⟨v,zs,h1,h2,h3,h4⟩:=hI.ex;have FA:Fq W (W.alloc (.cells (mP0 s va vc) 131)):=(Fr.refl _ _).alloc _;refine HK.out _ _ ((KeepsOthers.alloc _ _).from _) (ri0 ⟨v,h1⟩ _) ((oe0 hwW).alloc _ hI) ⟨W.heap.size,han _ _,⟨v,FA.heap h1 id,fun e=>?_⟩,fN0 hT FA (fun _ _ _ h=>h),rfl⟩;have:=(aW0 h2 e).2;omega
 case body =>
  rintro lp pre ⟨s,va,vc⟩ a' W hl ⟨rr,hrr⟩ hI ⟨b7,hb7W,⟨v0,hv0,hb7o⟩,hT,rfl⟩ hlen;obtain⟨v,zs,h1,h2,h3,h4⟩:=hI.ex;obtain rfl:v0=v:=by rw[h1] at hv0;cases hv0;rfl
  have her:=hI.er;have hfr:=hI.fr;have hbom:be+1<W0.heap.size:=oM
  have hb7bo:¬ b7=be+1:=fun e=>by rw[e,h1] at hb7W;cases hb7W
  have hboo:¬ v0.ownBlock=some (be+1):=fun e=>by
   obtain⟨-,c,hc⟩:=oBT h2 e.symm;rw[h1] at hc;cases hc
  have hn8:n<=8:=by rw[<- HT.out.2.2.2.1];exact nT (lc9 dC HT.out.1.depth) dC
  have hzl:zs.length<=8:=by have:=congrArg List.length h3;simp only[ln9] at this;omega
  have hFr:=fun V (F:Fq W V)=>kO0 (oN hT.1 F) (by have:=hT.2.1;omega) s.1 s.2.1 0
  rw[rw0 hT.2] at hFr;have HFr:=hid hFr;obtain⟨hjt,jz0,jz1,jz2⟩:=HInf.out;have hWm:W0.heap.size<=W.heap.size:=by have:=loh hrr;omega
  clear hI hv0 hrr hFr hs2 hs0 pxb plb peb pbe pbo pbe0 pbo0;gi_wp2
  refine cK0 (fun V=>V.heap[b7]?=some (.cells (mP0 s va vc) 131)) (.rd 1 (.rd 2 (.rd 3 (.rd 4 (.two 0 5 (.op 5 (.rd 6 (.op 7 (.op 8 (.op 9 .done))))) (.rd 6 (.two 0 7 (.op 7 (.op 8 (.op 9 .done))) (.op 0 (.op 8 (.op 9 .done)))))))))) kF kF kF kF (fun h=>by obtain⟨_,_,h⟩:=h;exact h) (fun _ _ _ _ _ h=>h) hb7W ?_;iterate 4
   try simp only[Act.put,sI,sZ,sS]
   refine ay0 _ ?_ gF rF ?_ ?_;rotate_left
   ·intro V hV;obtain⟨d0,d1,d2,d3,d4,dz,dl⟩:=cells5 hV;go_simp;try with_reducible rfl
  refine bn0 ?_ ?_
  ·try simp only[Act.put,sI,sZ,sS]
   refine az0 _ gF rF (fun K hK=>?_);have c0:=coh (((Fr.refl (fun _=>False) W).drew).heap h1 id) 0;simp at c0;go_simp;refine hK _ _ (((Fr.refl (fun _=>False) W).drew).heap hb7W id) ?_;clear hK K c0;try simp only[Act.put,sI,sZ,sS]
   refine az0 _ gF rF (fun K hK=>?_);go_simp;refine (HFr.out _ ((Fr.refl (fun _=>False) W).drew)).mono ?_;rintro _ V1 ⟨va1,vc1,rfl,hown1,G1⟩;have F1:Fq W V1:=Fr.trans (((Fr.refl (fun _=>False) W).drew)) G1 nI;have hown1:=ac0 hown1 (Fr.size (((Fr.refl (fun _=>False) W).drew)));try go_simp
   refine hK _ _ (F1.heap hb7W id) ?_;clear hK K;try simp only[Act.put,sI,sZ,sS]
   refine ay0 _ ?_ gF rF ?_ ?_;rotate_left
   ·intro V hV;go_simp;try with_reducible rfl
   try simp only[Act.put,sI,sZ,sS]
   refine az0 _ gF rF (fun K hK=>?_);go_simp;have hn5:(V1.alloc (.cells #[.int .i64 s.2.2.1.1,.int .i64 s.2.2.1.2,.int .i64 s.1,.int .i64 s.2.1,.slice va1 s.2.2.2.length vc1] 131)).heap[V1.heap.size]?=some (.cells #[.int .i64 s.2.2.1.1,.int .i64 s.2.2.1.2,.int .i64 s.1,.int .i64 s.2.1,.slice va1 s.2.2.2.length vc1] 131):=han _ _;obtain⟨V2,hV2⟩:=eX (V1.alloc (.cells #[.int .i64 s.2.2.1.1,.int .i64 s.2.2.1.2,.int .i64 s.1,.int .i64 s.2.1,.slice va1 s.2.2.2.length vc1] 131))
   have F2:Fq W V2:=by rw[<- hV2];exact F1.alloc _
   have F12:Fq V1 V2:=by rw[<- hV2];exact (Fr.refl _ _).alloc _
   rw[hV2] at hn5 ⊢;refine hK _ _ (F2.heap hb7W id) ?_;clear hK K;try simp only[Act.put,sI,sZ,sS]
   refine az0 _ gF rF (fun K hK=>?_);refine cy0 rfl (.tmp 25) (.tmp 32) 124 rfl W0.heap.size 131 jt0 _ 5 56 Tryz.underlying124 hjt jz0 jz1 jz2 rfl dC v0 zs.length _ rfl (oN h2 F2) ⟨V1.heap.size,0,none⟩ 1 1 (bE0 ⟨s,va1,vc1⟩) rfl (World.news_of_block hn5) rfl (by simp[Value.oneCell']) (by simp[maxLen];omega) oM (by have:=F2.size;omega) ?_;intro v3 V3 hown3 hg3 hv3;obtain⟨a3,c3,rfl,-,-,-,-⟩:=oSl hown3;have FV3:Fr (fun b=>v0.ownBlock=some b) W V3:=(F2.mono nE).trans (cr0 hg3) nI;have hb73:=FV3.heap hb7W hb7o;refine hK _ _ hb73 ?_;clear hK K;try simp only[Act.put,sI,sZ,sS]
   refine az0 _ gF rF (fun K hK=>?_);have hbo3:=FV3.heap h1 hboo;have c0:=coh hbo3 0;have cz:=foh hbo3 0;have cl:=loh hbo3;simp at c0;go_simp;obtain⟨V4,hV4⟩:=eX (V3.setCell ⟨(be+1),0,none⟩ (.slice a3 (zs.length+1) c3))
   rw[hV4];have F34:Fr (fun b=>b=(be+1)) V3 V4:=by rw[<- hV4];exact eC0 _ _ _ _
   refine hK _ _ (F34.heap hb73 hb7bo) ?_;clear hK K;try simp only[Act.put,sI,sZ,sS]
   refine ar0 ?_;refine NoPanic.normal ?_;gi_wp2
   have hbo4:V4.heap[(be+1)]?=some (.cells #[(.slice a3 (zs.length+1) c3)] 124):=by rw[<- hV4,hsc _ _ _ _ hbo3];rfl
   have F4:Fr (fun b=>b=(be+1)\/v0.ownBlock=some b) W V4:=(FV3.mono (fun _ _ h=>.inr h)).trans F34 (fun _ _ h=>.inl h);have hgo:∀ g,v0.ownBlock=some g->W0.heap.size<=g/\∃ c,W.heap[g]?=some (.cells c 131):=fun g hg=>oBT h2 hg.symm
   have K4:KpO W0.heap.size (be+1) W V4:=jA0 hbom h1 hbo4 (F4.mono fun b _ hs=>hs.imp id fun hg=>⟨⟨v0,h1,hg⟩,by obtain⟨-,c,hc⟩:=hgo b hg;exact⟨c,_,hc⟩⟩) (fun g hg=>by
    rcases hv3 with e|e
    ·exact .inr (e ▸ hg)
    ·rw[e] at hg;cases hg;exact .inl F2.size)
   have hown4:V4.ownsRow W0.heap.size 131 5 (.slice a3 (zs.length+1) c3) (zs.length+1) (zs.flatMap bE0++bE0 ⟨s,va1,vc1⟩):=aS0 hown3 F34 (fun g hg e=>by
    subst e;obtain⟨-,c,hc⟩:=oBT hown3 hg.symm;rw[hbo3] at hc;cases hc)
   refine⟨jB0 F4 (fun b o ho hc hs=>?_),K4,⟨(.slice a3 (zs.length+1) c3),zs++[⟨s,va1,vc1⟩],hbo4,?_,?_,fun z hz=>?_⟩,K4.keep be _ her (fun e=>by rw[e,h1] at her;cases her) (fun⟨_,c,f,hc⟩=>by rw[her] at hc;cases hc) (.inr rfl),?_⟩
   ·rcases hs with e|hg
    ·rw[e,h1] at ho;cases ho;cases hc
    ·obtain⟨-,c,hcc⟩:=hgo b hg;rw[hcc] at ho;cases ho;cases hc
   ·rw[lA,li9,mn9,nh9];exact hown4
   ·rw[lt9,lt9,h3];rfl
   ·rcases lb9.1 hz with hz|hz
    ·exact⟨K4.own (h4 z hz).1 dC ⟨_,h1⟩,(h4 z hz).2⟩
    ·rw[lQ9] at hz;subst hz;refine⟨aS0 (aS0 (oN (own_base hown1) F12) (cr0 hg3) (fun g hg hs=>?_)) F34 (fun g hg e=>?_),hT.2⟩
     ·have h5:=(aW0 hown1 hg).1;obtain⟨-,c,hcc⟩:=hgo g hs;have:=loh hcc;omega
     ·have h5:=(aW0 hown1 hg).1;have:=loh h1;omega
   ·exact Fr.trans hfr (F4.mono (S':=fun b=>W0.heap.size<=b\/b=(be+1)) fun b _ hs=>hs.elim .inr fun hg=>.inl (hgo b hg).1) (fun b hb hs=>by
     exfalso;rcases hs with hs|hs <;> omega)
  ·try simp only[Act.put,sI,sZ,sS]
   refine az0 _ gF rF (fun K hK=>?_);go_simp;refine (HFr.out _ ((Fr.refl (fun _=>False) W).drew)).mono ?_;rintro _ V1 ⟨va1,vc1,rfl,hown1,G1⟩;have F1:Fq W V1:=Fr.trans (((Fr.refl (fun _=>False) W).drew)) G1 nI;have hown1:=ac0 hown1 (Fr.size (((Fr.refl (fun _=>False) W).drew)));try go_simp
   refine hK _ _ (F1.heap hb7W id) ?_;clear hK K;try simp only[Act.put,sI,sZ,sS]
   refine ay0 _ ?_ gF rF ?_ ?_;rotate_left
   ·intro V hV;go_simp;try with_reducible rfl
   refine bn0 ?_ ?_
   ·try simp only[Act.put,sI,sZ,sS]
    refine az0 _ gF rF (fun K hK=>?_);have c0:=coh (F1.heap h1 id) 0;simp at c0;go_simp;refine hK _ _ (F1.heap hb7W id) ?_;clear hK K c0;try simp only[Act.put,sI,sZ,sS]
    refine az0 _ gF rF (fun K hK=>?_);go_simp;have hn5:(V1.alloc (.cells #[.int .i64 s.2.2.1.1,.int .i64 s.2.2.1.2,.int .i64 s.1,.int .i64 s.2.1,.slice va1 s.2.2.2.length vc1] 131)).heap[V1.heap.size]?=some (.cells #[.int .i64 s.2.2.1.1,.int .i64 s.2.2.1.2,.int .i64 s.1,.int .i64 s.2.1,.slice va1 s.2.2.2.length vc1] 131):=han _ _;obtain⟨V2,hV2⟩:=eX (V1.alloc (.cells #[.int .i64 s.2.2.1.1,.int .i64 s.2.2.1.2,.int .i64 s.1,.int .i64 s.2.1,.slice va1 s.2.2.2.length vc1] 131))
    have F2:Fq W V2:=(by rw[<- hV2];exact F1.alloc _);have F12:Fq V1 V2:=(by rw[<- hV2];exact (Fr.refl _ _).alloc _);rw[hV2] at hn5 ⊢;refine hK _ _ (F2.heap hb7W id) ?_;clear hK K;try simp only[Act.put,sI,sZ,sS]
    refine az0 _ gF rF (fun K hK=>?_);refine cy0 rfl (.tmp 25) (.tmp 32) 124 rfl W0.heap.size 131 jt0 _ 5 56 Tryz.underlying124 hjt jz0 jz1 jz2 rfl dC v0 zs.length _ rfl (oN h2 F2) ⟨V1.heap.size,0,none⟩ 1 1 (bE0 ⟨s,va1,vc1⟩) rfl (World.news_of_block hn5) rfl (by simp[Value.oneCell']) (by simp[maxLen];omega) oM (by have:=F2.size;omega) ?_;intro v3 V3 hown3 hg3 hv3;obtain⟨a3,c3,rfl,-,-,-,-⟩:=oSl hown3;have FV3:Fr (fun b=>v0.ownBlock=some b) W V3:=(F2.mono nE).trans (cr0 hg3) nI;have hb73:=FV3.heap hb7W hb7o;refine hK _ _ hb73 ?_;clear hK K;try simp only[Act.put,sI,sZ,sS]
    refine az0 _ gF rF (fun K hK=>?_);have hbo3:=FV3.heap h1 hboo;have c0:=coh hbo3 0;have cz:=foh hbo3 0;have cl:=loh hbo3;simp at c0;go_simp;obtain⟨V4,hV4⟩:=eX (V3.setCell ⟨(be+1),0,none⟩ (.slice a3 (zs.length+1) c3))
    rw[hV4];have F34:Fr (fun b=>b=(be+1)) V3 V4:=(by rw[<- hV4];exact eC0 _ _ _ _);refine hK _ _ (F34.heap hb73 hb7bo) ?_;clear hK K;try simp only[Act.put,sI,sZ,sS]
    refine ar0 ?_;refine NoPanic.normal ?_;gi_wp2
    have hbo4:V4.heap[(be+1)]?=some (.cells #[(.slice a3 (zs.length+1) c3)] 124):=(by rw[<- hV4,hsc _ _ _ _ hbo3];rfl);have F4:Fr (fun b=>b=(be+1)\/v0.ownBlock=some b) W V4:=(FV3.mono (fun _ _ h=>.inr h)).trans F34 (fun _ _ h=>.inl h);have hgo:∀ g,v0.ownBlock=some g->W0.heap.size<=g/\∃ c,W.heap[g]?=some (.cells c 131):=fun g hg=>oBT h2 hg.symm
    have K4:KpO W0.heap.size (be+1) W V4:=jA0 hbom h1 hbo4 (F4.mono fun b _ hs=>hs.imp id fun hg=>⟨⟨v0,h1,hg⟩,by obtain⟨-,c,hc⟩:=hgo b hg;exact⟨c,_,hc⟩⟩) (fun g hg=>by
     rcases hv3 with e|e
     ·exact .inr (e ▸ hg)
     ·rw[e] at hg;cases hg;exact .inl F2.size)
    have hown4:V4.ownsRow W0.heap.size 131 5 (.slice a3 (zs.length+1) c3) (zs.length+1) (zs.flatMap bE0++bE0 ⟨s,va1,vc1⟩):=aS0 hown3 F34 (fun g hg e=>by
     subst e;obtain⟨-,c,hc⟩:=oBT hown3 hg.symm;rw[hbo3] at hc;cases hc)
    refine⟨jB0 F4 (fun b o ho hc hs=>?_),K4,⟨(.slice a3 (zs.length+1) c3),zs++[⟨s,va1,vc1⟩],hbo4,?_,?_,fun z hz=>?_⟩,K4.keep be _ her (fun e=>by rw[e,h1] at her;cases her) (fun⟨_,c,f,hc⟩=>by rw[her] at hc;cases hc) (.inr rfl),?_⟩
    ·rcases hs with e|hg
     ·rw[e,h1] at ho;cases ho;cases hc
     ·obtain⟨-,c,hcc⟩:=hgo b hg;rw[hcc] at ho;cases ho;cases hc
    ·rw[lA,li9,mn9,nh9];exact hown4
    ·rw[lt9,lt9,h3];rfl
    ·rcases lb9.1 hz with hz|hz
     ·exact⟨K4.own (h4 z hz).1 dC ⟨_,h1⟩,(h4 z hz).2⟩
     ·rw[lQ9] at hz;subst hz;refine⟨aS0 (aS0 (oN (own_base hown1) F12) (cr0 hg3) (fun g hg hs=>?_)) F34 (fun g hg e=>?_),hT.2⟩
      ·have h5:=(aW0 hown1 hg).1;obtain⟨-,c,hcc⟩:=hgo g hs;have:=loh hcc;omega
      ·have h5:=(aW0 hown1 hg).1;have:=loh h1;omega
    ·exact Fr.trans hfr (F4.mono (S':=fun b=>W0.heap.size<=b\/b=(be+1)) fun b _ hs=>hs.elim .inr fun hg=>.inl (hgo b hg).1) (fun b hb hs=>by
      exfalso;rcases hs with hs|hs <;> omega)
   ·try simp only[Act.put,sI,sZ,sS]
    refine az0 _ gF rF (fun K hK=>?_);go_simp;have hn5:(V1.alloc (.cells #[.int .i64 s.2.2.1.1,.int .i64 s.2.2.1.2,.int .i64 s.1,.int .i64 s.2.1,.slice va1 s.2.2.2.length vc1] 131)).heap[V1.heap.size]?=some (.cells #[.int .i64 s.2.2.1.1,.int .i64 s.2.2.1.2,.int .i64 s.1,.int .i64 s.2.1,.slice va1 s.2.2.2.length vc1] 131):=han _ _;obtain⟨V2,hV2⟩:=eX (V1.alloc (.cells #[.int .i64 s.2.2.1.1,.int .i64 s.2.2.1.2,.int .i64 s.1,.int .i64 s.2.1,.slice va1 s.2.2.2.length vc1] 131))
    have F2:Fq W V2:=(by rw[<- hV2];exact F1.alloc _);have F12:Fq V1 V2:=(by rw[<- hV2];exact (Fr.refl _ _).alloc _);rw[hV2] at hn5 ⊢;refine hK _ _ (F2.heap hb7W id) ?_;clear hK K;try simp only[Act.put,sI,sZ,sS]
    refine az0 _ gF rF (fun K hK=>?_);have c0:=coh (F2.heap h1 id) 0;simp at c0;go_simp;refine hK _ _ (F2.heap hb7W id) ?_;clear hK K c0;try simp only[Act.put,sI,sZ,sS]
    refine az0 _ gF rF (fun K hK=>?_);refine cy0 rfl (.tmp 25) (.tmp 32) 124 rfl W0.heap.size 131 jt0 _ 5 56 Tryz.underlying124 hjt jz0 jz1 jz2 rfl dC v0 zs.length _ rfl (oN h2 F2) ⟨V1.heap.size,0,none⟩ 1 1 (bE0 ⟨s,va1,vc1⟩) rfl (World.news_of_block hn5) rfl (by simp[Value.oneCell']) (by simp[maxLen];omega) oM (by have:=F2.size;omega) ?_;intro v3 V3 hown3 hg3 hv3;obtain⟨a3,c3,rfl,-,-,-,-⟩:=oSl hown3;have FV3:Fr (fun b=>v0.ownBlock=some b) W V3:=(F2.mono nE).trans (cr0 hg3) nI;have hb73:=FV3.heap hb7W hb7o;refine hK _ _ hb73 ?_;clear hK K;try simp only[Act.put,sI,sZ,sS]
    refine az0 _ gF rF (fun K hK=>?_);have hbo3:=FV3.heap h1 hboo;have c0:=coh hbo3 0;have cz:=foh hbo3 0;have cl:=loh hbo3;simp at c0;go_simp;obtain⟨V4,hV4⟩:=eX (V3.setCell ⟨(be+1),0,none⟩ (.slice a3 (zs.length+1) c3))
    rw[hV4];have F34:Fr (fun b=>b=(be+1)) V3 V4:=(by rw[<- hV4];exact eC0 _ _ _ _);refine hK _ _ (F34.heap hb73 hb7bo) ?_;clear hK K;try simp only[Act.put,sI,sZ,sS]
    refine ar0 ?_;refine NoPanic.normal ?_;gi_wp2
    have hbo4:V4.heap[(be+1)]?=some (.cells #[(.slice a3 (zs.length+1) c3)] 124):=(by rw[<- hV4,hsc _ _ _ _ hbo3];rfl);have F4:Fr (fun b=>b=(be+1)\/v0.ownBlock=some b) W V4:=(FV3.mono (fun _ _ h=>.inr h)).trans F34 (fun _ _ h=>.inl h);have hgo:∀ g,v0.ownBlock=some g->W0.heap.size<=g/\∃ c,W.heap[g]?=some (.cells c 131):=fun g hg=>oBT h2 hg.symm
    have K4:KpO W0.heap.size (be+1) W V4:=jA0 hbom h1 hbo4 (F4.mono fun b _ hs=>hs.imp id fun hg=>⟨⟨v0,h1,hg⟩,by obtain⟨-,c,hc⟩:=hgo b hg;exact⟨c,_,hc⟩⟩) (fun g hg=>by
     rcases hv3 with e|e
     ·exact .inr (e ▸ hg)
     ·rw[e] at hg;cases hg;exact .inl F2.size)
    have hown4:V4.ownsRow W0.heap.size 131 5 (.slice a3 (zs.length+1) c3) (zs.length+1) (zs.flatMap bE0++bE0 ⟨s,va1,vc1⟩):=aS0 hown3 F34 (fun g hg e=>by
     subst e;obtain⟨-,c,hc⟩:=oBT hown3 hg.symm;rw[hbo3] at hc;cases hc)
    refine⟨jB0 F4 (fun b o ho hc hs=>?_),K4,⟨(.slice a3 (zs.length+1) c3),zs++[⟨s,va1,vc1⟩],hbo4,?_,?_,fun z hz=>?_⟩,K4.keep be _ her (fun e=>by rw[e,h1] at her;cases her) (fun⟨_,c,f,hc⟩=>by rw[her] at hc;cases hc) (.inr rfl),?_⟩
    ·rcases hs with e|hg
     ·rw[e,h1] at ho;cases ho;cases hc
     ·obtain⟨-,c,hcc⟩:=hgo b hg;rw[hcc] at ho;cases ho;cases hc
    ·rw[lA,li9,mn9,nh9];exact hown4
    ·rw[lt9,lt9,h3];rfl
    ·rcases lb9.1 hz with hz|hz
     ·exact⟨K4.own (h4 z hz).1 dC ⟨_,h1⟩,(h4 z hz).2⟩
     ·rw[lQ9] at hz;subst hz;refine⟨aS0 (aS0 (oN (own_base hown1) F12) (cr0 hg3) (fun g hg hs=>?_)) F34 (fun g hg e=>?_),hT.2⟩
      ·have h5:=(aW0 hown1 hg).1;obtain⟨-,c,hcc⟩:=hgo g hs;have:=loh hcc;omega
      ·have h5:=(aW0 hown1 hg).1;have:=loh h1;omega
    ·exact Fr.trans hfr (F4.mono (S':=fun b=>W0.heap.size<=b\/b=(be+1)) fun b _ hs=>hs.elim .inr fun hg=>.inl (hgo b hg).1) (fun b hb hs=>by
      exfalso;rcases hs with hs|hs <;> omega)
 case done =>
  rintro D xs W hDD hxs hI hE hK;obtain⟨v,zs,h1,h2,h3,h4⟩:=hI.ex;have d0:=coh hI.er 0;have d1:=coh h1 0;simp at d0 d1;have dl:=loh hI.er;have dl1:=loh h1;have HI:=hi2 hI.fr (aI h2 (aI h3 (aI h4 (aI hE (aI hK hxs)))));clear hI h1 h2 h3 h4 hE hK hs2 hs0 pxb plb peb pbe pbo pbe0 pbo0 hxs;gi_wp2
  obtain⟨hfr,h2,h3,h4,hE,hK,hxs⟩:=HI.out;have FP:Fr (fun b=>b=D) W (W.putObj D (.deferred none)):=(Fr.refl (fun b=>b=D) _).putObj (fun _=>rfl) _;have nc:∀ b c t f,W.heap[b]?=some (.cells c t f)->¬ b=D:=fun b c t f hb e=>by rw[e,hK] at hb;cases hb
  refine sO0 (v:=v) hK ⟨v,zs,rfl,rx0 hfr FP oM,?_,h3.trans hxs,fun z hz=>fN0 (h4 z hz) FP (fun g c hg e=>nc _ _ _ _ hg e),⟨⟨au0,L,(hE.AC0 hDD hlt h00 hK rfl).mono oM hN,HT.out.2.2.1⟩,HT.out.1.high,HT.out.1.ok⟩⟩ rfl rfl;exact oRf (ac0 h2 hwW) FP (fun g c hg e=>nc _ _ _ _ hg e)
 case stop=>exact fun _ _ _ _ _ _ h=>h.elim
end
section
open Go.RowKit Go.Sg Go.Sg.Bits Go.Sg.Clk CP SF
theorem gm0:∀ (t:Tr) (d p:Nat),(lvs t d p).map (·.2.2.1)=t.refs
 | .leaf r es,d,p=>rfl
 | .node l r,d,p=>by simp only[lvs,Tr.refs,lt9,gm0 l,gm0 r]

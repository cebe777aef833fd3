/- A pack of texts. Conditions: those that each names. -/
import Derived.Test.YtgdhaaokolfdoaaGreatDoorNAU
import Derived.Lib.OwnBridge
import Derived.StillTail
set_option maxHeartbeats 16000000
set_option maxRecDepth 100000
set_option linter.all false
namespace Go.Proofs.YtgdhaaokolfdoaaGreatDoor
section
open Go.RowKit Go.Sg Go.Sg.Bits Go.Sg.Clk CP SF
def gv0 (l:List Rf):List Rf:=l.flatMap fun r=>[r,r]
theorem jP0 (l:List Rf):(gv0 l).length=2*l.length:=by
 induction l with
 | nil=>rfl
 | cons x l ih=>simp only[gv0,lj9,lA] at ih ⊢;rw[ih];simp;omega
variable {l:List Rf}{w:World}
theorem kC0 {k:Nat}{r:Rf}(h:l[k]?=some r):gv0 (l.take (k+1))=gv0 (l.take k)++[r,r]:=by
 rw[lw9,h];simp[gv0]
theorem oF0 (h:∀ r ∈ l,aF0 r):∀ r ∈ gv0 l,aF0 r:=fun r hr=>by
 obtain⟨x,hx,h1⟩:=mf9.1 hr;simp at h1;subst h1;exact h _ hx
variable {B:Blk}
theorem FrX.cut {X Y:Nat->Prop}{w1 w2:World}(h:FrX B Y w w1)(k:FrX B (fun b=>X b\/Y b) w1 w2)(hX:∀ b,X b->w.heap.size<=b):FrX B Y w w2:=
 (FrX.trans (h.mono fun _ _ h=>h.imp id .inr) k).mono fun b hb hs=>by
  rcases hs with hs|hs|hs
  ·exact .inl hs
  ·exact absurd hb (mS9.2 (hX b hs))
  ·exact .inr hs
def yw0 (B:Blk)(bd:Nat)(x:aL0)(y:Cs)(P:aC0)(a:Bool)(N:Nat)(rest:List Nat)(M:Nat)(K:Prop)(c0:Cont)(all:List Rf)(w:World)(e:Ending)(w':World):Prop:=
 ∃ err,e = .returned (.int .i64 err)/\FrX B (fun b=>b=bd) w w'/\((err=0/\∃ (y':Cs) (tk:List Rf) (m:Nat),aj0 w' bd B.s { x with rp:=m,rs:=y.gen }/\aw0 w' B y' P a N/\fC0 y' { x with rp:=m,rs:=y.gen } tk all/\Live y' (pgs m tk++rest) M /\
  (K->bi0 y' (pgs m tk++rest))/\(∀ k ∈ rest,y'.cont k=c0 k)/\(Like y y'/\y'.gen=y.gen/\y'.dead=y.dead))\/(err=4/\a=true/\aP0 w' B y P N))
theorem qM0 {y:Cs}{P:aQ0}{a:Bool}{N M bd:Nat}{x:aL0}{au0 slots:List Rf}{rest:List Nat}{K:Prop}{c0:Cont}(h:aw0 w B y P a N)(hD:aj0 w bd B.s x)(hC:fC0 y x au0 slots)(hdm:x.depth<x.most)(hpg:y.pages<=2147483647)(hL:Live y (pgs x.rp au0++rest) M)(hK:K->bi0 y (pgs x.rp au0++rest))(hc:∀ k ∈ rest,y.cont k=c0 k)
  (hM:1+({ x with depth:=x.depth+1 }:aL0).leaves+rest.length+2*M<y.pages) (hN:N+100<=90000) :
  Calls Tryz.prog 49 #[cR0 bd] w (yw0 B bd { x with depth:=x.depth+1 } y P a (N+100) rest M K c0 (gv0 slots) w):=by
 obtain⟨i0,hi0,hz0,hz1,hz2⟩:=info_parts Tryz.js0;have hp41:=hC.z.qu0;have hsl:slots.length<=1681:=by
  have h1:=hC.z.fx0;have h2:x.leaves*x.per<=41*41:=Nat.mul_le_mul hp41.1 hp41.2;rw[hC.slen];omega
 have h0:0<w.heap.size:=by have:=h.base;have:=h.bs0;omega
 have HTop:=hid (fun W (F:Fq w W)=>oa0 (h.fr0 F) (F.heap hD id:aj0 W bd B.s x) hC oM);have HD:=hid hD;have HC:=hid hC;have HL:=hi2 hL (aI hK hc);have hd':decide ((x.most:Int)<=(x.depth:Int))=false:=by simp;omega
 obtain⟨c0',c1,c2,c3,c4,c5,cz,cl⟩:=aU0 hD;clear h hD hC hL hK hc;go_enter Tryz.func49,Tryz.ntmps49;go_wp2_with fail
 go_quiet (fail)
 go_wp2_with (go_at_call 120;refine (HTop.out _ ((Fr.refl _ _).drewN _)).mono ?_)
 rintro e W1 ⟨v1,err,rfl,F1,⟨rfl,hown1,hS1⟩|⟨rfl,ha,hDn⟩⟩
 ·replace F1:FrB B w W1:=FrB.trans (FrB.none ((Fr.refl _ _).drewN _)) F1
  have HAll:=hid (vZ0 hS1 (HD.out.frB F1) HC.out oM);have H1:=hi2 (show dC0 W1 w.heap.size v1 au0 from hown1) F1;clear hown1 hS1 F1 c0' c1 c2 c3 c4 c5 cz cl;go_wp2_with (go_at_call 48;refine (HAll.out).mono ?_)
  rintro e W2 ⟨v2,err,rfl,F2,⟨rfl,hown2,hS2⟩|⟨rfl,ha,hDn⟩⟩
  ·have hown12:dC0 W2 w.heap.size v1 au0:=oRf H1.out.1 F2 (fun g c hg hs=>absurd (hs.2.1 c 35 _ hg) dC);obtain⟨sa,sc,rfl,hT⟩:=by0 hown2;obtain⟨n,hn⟩:=eX slots.length
   have hn1:n<=1681:=oM
   rw[hn];have H2:=hi2 hS2 (aI hT (aI (FrB.trans H1.out.2 F2) (aI hown12 hn)));have hsz2:w.heap.size<=W2.heap.size:=nT H1.out.2.size F2.size;clear hown2 hS2 F2 hT hown12 hn hsl;go_wp2_with fail
   go_loopw [6,40] (fun v i wr=>∃ k:Nat,k<=n/\i = .int .i64 k/\dC0 wr W2.heap.size v (gv0 (slots.take k))/\Fq W2 wr) (fun _ i _=>n-(intOf i).toNat)
   case atStart=>exact⟨0,la9 _,rfl,World.ownsRow_nil _ _ _ _,Fr.refl _ _⟩
   case round =>
    obtain⟨k,hk,rfl,hown,hF⟩:=hrel;have HR:=hi2 hown hF;by_cases hlt:k<n
    ·have hd:decide ((k:Int)<(n:Int))=true:=sO;obtain⟨r,hr⟩:∃ r,slots[k]?=some r:=⟨_,gE (by rw[H2.out.2.2.2.2];exact hlt)⟩
     obtain⟨b,off,rfl,hb,g0,g1⟩:=(H2.out.2.1.fr0 hF).row.at_ k r hr;have hki:(k:Int)<(n:Int):=oM;have HRk:=hid hr;have hdl:(gv0 (slots.take k)).length=2*k:=(by rw[jP0,lT,H2.out.2.2.2.2];omega);have HDL:=hid hdl;have hsz:W2.heap.size<=wr.heap.size:=hF.size;clear hown hF hr hdl;go_upto_region 15 with fail
     obtain⟨W4,hW4⟩:=eX (wr.alloc (.cells #[.int .i64 r.1,.int .i64 r.2] 35))
     rw[hW4];have b4:W4.heap[wr.heap.size]?=some (.cells #[.int .i64 r.1,.int .i64 r.2] 35):=(by rw[<- hW4];exact han _ _);have F4:Fq wr W4:=(by rw[<- hW4];exact (Fr.refl _ _).alloc _);obtain⟨e0,e1,ez,el⟩:=cells2 b4;have H4:=hi2 (oRf HR.out.1 F4 (fun _ _ _ h=>h)) F4;clear b4 F4 hW4 g0 g1;go_wp2_with (at_builtin;refine wpList_append_own_at _ rfl (.tmp 44) (.tmp 47) 33 rfl W2.heap.size 35 i0 _ 2 16 Tryz.underlying33 hi0 hz0 hz1 hz2 rfl dC _ _ _ rfl (H4.out.1.alloc _) ⟨W4.heap.size,0,none⟩ 2 2 [.int .i64 r.1,.int .i64 r.2,.int .i64 r.1,.int .i64 r.2] rfl rfl (World.news_of_block (cs:=#[.int .i64 r.1,.int .i64 r.2,.int .i64 r.1,.int .i64 r.2]) (t:=35) (fr:=(0,0)) (han _ _)) (by simp[Value.oneCell']) (by rw[HDL.out];simp only[maxLen];omega) (by rw[HDL.out];omega) (by have:=H4.out.2.size;simp;omega) ?_)
     intro v5 W5 hown5 hg5 hnil5 hat5;have F5:Fq W2 W5:=(HR.out.2.trans (H4.out.2.alloc (.cells #[.int .i64 r.1,.int .i64 r.2,.int .i64 r.1,.int .i64 r.2] 35)) nI).trans (ci0 (H4.out.1.alloc _) hg5) (fun b hb h=>oM);have H5:=hi2 hown5 F5;clear hown5 hg5 hnil5 hat5 F5;go_wp2_with fail
     go_roundw;case rel =>
      refine⟨k+1,hlt,by go_num,?_,H5.out.2⟩;have e2:(gv0 (slots.take (k+1))).flatMap dB0=(gv0 (slots.take k)).flatMap dB0++[.int .i64 r.1,.int .i64 r.2,.int .i64 r.1,.int .i64 r.2]:=(by rw[kC0 HRk.out,li9];rfl);have e3:(gv0 (slots.take (k+1))).length=(gv0 (slots.take k)).length+2:=(by rw[kC0 HRk.out,lA];rfl);show W5.ownsRow _ 35 2 _ (gv0 (slots.take (k+1))).length ((gv0 (slots.take (k+1))).flatMap dB0);rw[e2,e3];exact H5.out.1
     case measure=>simp[intOf];omega
    ·obtain rfl:k=n:=by omega
     have hd:decide ((k:Int)<(k:Int))=false:=sP;have hks:slots.take k=slots:=tL (by rw[H2.out.2.2.2.2];exact nR _);rw[hks] at hown;have hdl:(gv0 slots).length=2*k:=(by rw[jP0,H2.out.2.2.2.2]);have hkp:0<k:=by
      have h1:slots.length=x.slots:=HC.out.slen;have h2:0<x.slots:=lW9 dC;have h3:=H2.out.2.2.2.2;omega
     obtain⟨r0,hr0⟩:∃ r0,(gv0 slots)[0]?=some r0:=⟨_,gE oM⟩
     obtain⟨da,dc,rfl,hdc,-⟩:=oSl hown;obtain⟨gb,rfl,hgb,-⟩:=ip0 hown hr0;obtain⟨ta,tc,rfl,-⟩:=oSl H2.out.2.2.2.1;have hF5:Fr (fun b=>b=bd) wr (wr.setCell ⟨bd,3,none⟩ (.int .i64 ((x.depth+1:Nat):Int))):=Fr.setCell (S:=fun b=>b=bd) (Fr.refl _ _) (fun _=>rfl) _;have hDr:aj0 wr bd B.s x:=hF.heap (HD.out.frB H2.out.2.2.1) id;have hD5:aj0 (wr.setCell ⟨bd,3,none⟩ (.int .i64 ((x.depth+1:Nat):Int))) bd B.s { x with depth:=x.depth+1 }:=by
      unfold aj0 at hDr ⊢;rw[hsc _ _ _ _ hDr];rfl
     have hnd:∀ g c,wr.heap[g]?=some (.cells c 35)->¬ g=bd:=fun g c hg e=>by
      unfold aj0 at hDr;rw[e,hDr] at hg;cases hg
     have hbdp:=qg0 (H2.out.1.fr0 hF) hDr;have hS5:aw0 (wr.setCell ⟨bd,3,none⟩ (.int .i64 ((x.depth+1:Nat):Int))) B y P a (N+1+1+x.leaves):=(H2.out.1.fr0 hF).frL hF5 hDr dC hbdp;have hot:dC0 wr w.heap.size (.slice ta au0.length tc) au0:=oRf H2.out.2.2.2.1 hF (fun _ _ _ h=>h);have hot5:=oRf hot hF5 (fun g c hg=>hnd g c hg);have hoa5:dC0 (wr.setCell ⟨bd,3,none⟩ (.int .i64 ((x.depth+1:Nat):Int))) W2.heap.size (.slice (some ⟨gb,0,none⟩) (gv0 slots).length dc) (gv0 slots):=oRf hown hF5 (fun g c hg=>hnd g c hg);obtain⟨a2,c2',hsv,hall⟩:=by0 hoa5;obtain⟨rfl,rfl⟩:a2=some ⟨gb,0,none⟩/\c2'=dc:=by cases hsv;exact⟨rfl,rfl⟩
     have hz':kU0 y { x with depth:=x.depth+1 }:=⟨⟨hdm,HC.out.z.most.2⟩,HC.out.z.per,HC.out.z.fits,HC.out.z.room⟩;have hlm:x.leaves<=({ x with depth:=x.depth+1 }:aL0).leaves:=by
      unfold aL0.leaves aL0.slots;have h1:2^x.depth<=2^(x.depth+1):=lc9 dC (Nat.le_succ _);exact Nat.div_le_div_right (by simp only;omega)
     have h41':=hz'.qu0.1;have hT0:kT0 y x.rp au0 rest M K c0 (fun _=>none):=by
      have ht:=HC.out.au0 HL.out.1 HL.out.2.1 HL.out.2.2;exact⟨ht.live,ht.right,ht.rr,fun j r bs hj hC=>(by cases hC),ht.calm,ht.keep⟩
     have hgt:∀ g,ta=some ⟨g,0,none⟩->w.heap.size<=g/\g<W2.heap.size:=fun g e=>by
      obtain⟨h1,c,hc⟩:=oBT H2.out.2.2.2.1 (g:=g) (by rw[e];rfl);exact⟨h1,loh hc⟩
     have hgb2:W2.heap.size<=gb:=(oBT hown (g:=gb) rfl).1;have hLay:=yD0 (x:={ x with depth:=x.depth+1 }) hS5 hD5 hz' HC.out.rr.2 hpg hT0 (by rw[HC.out.tlen];exact hlm) (by rw[jP0,HC.out.slen];unfold aL0.slots;simp only;rw[lK9];omega) (oF0 HC.out.leaf.sr) hM hot5 h0 (by have:=hF.size;simp;omega) hall (fun g e=>by have:=hgt g e;omega) hdc oM;have hdep:((x.depth+1:Nat):Int)=(x.depth:Int)+1:=sP;rw[hdep] at hLay;have HLay:=hid hLay;have hF05:FrX B (fun b=>b=bd) w (wr.setCell ⟨bd,3,none⟩ (.int .i64 ((x.depth+1:Nat):Int))):=Fr.setCell (show FrX B (fun b=>b=bd) w wr from FrX.trans (FrX.of H2.out.2.2.1) (FrX.none hF)) (fun _=>Or.inr rfl) _;rw[hdep] at hF05;have HF5:=hi2 hF05 hgt;have hd20:x.depth<=20:=(by have:=HC.out.z.most;omega);obtain⟨c0',c1,c2,c3,c4,c5,cz,cl⟩:=aU0 hDr;clear hown hF hF5 hDr hD5 hnd hS5 hot hot5 hoa5 hsv hall hz' hT0 hgt hLay hF05 hr0 hks hdep hdl;go_wp2_with (go_at_call 122;refine HLay.out.mono ?_)
     rintro e W9 ⟨err,rfl,F9,hres⟩;have HX:=hi2 F9 hres;clear F9 hres c0' c1 c2 c3 c4 c5 cz cl;go_wp2_with fail
     go_ret;refine⟨err,rfl,FrX.cut HF5.out.1 HX.out.1 (fun b hb=>(HF5.out.2 b hb).1),?_⟩;rcases HX.out.2 with⟨rfl,y',tk,m',e1,e2,e3⟩|⟨rfl,e1,e2⟩
     ·exact .inl ⟨rfl,y',tk,m',e1,e2.mono oM hN,e3⟩
     ·exact .inr ⟨rfl,e1,e2.mono oM⟩
  ·have HX:=hi2 ha (aI hDn (FrB.trans H1.out.2 F2));clear hDn ha F2;go_wp2_with fail
   go_ret;exact⟨4,rfl,FrX.of HX.out.2.2,.inr ⟨rfl,HX.out.1,HX.out.2.1.mono oM⟩⟩
 ·have HX:=hi2 ha (aI hDn (FrB.trans (FrB.none ((Fr.refl _ _).drewN _)) F1));clear hDn ha F1;go_wp2_with fail
  go_ret;exact⟨4,rfl,FrX.of HX.out.2.2,.inr ⟨rfl,HX.out.1,HX.out.2.1.mono oM⟩⟩
end
section
open Go.Proofs Go.RowKit Go.Sg CP SF
structure SlI (w:World)(a:Option Addr)(n c:Nat)(l:List Int):Prop where
 len:l.length=n
 at_:∀ (i:Nat) (k:Int),l[i]?=some k->∃ b off,a=some ⟨b,off,none⟩/\b<w.heap.size/\w.cell? ⟨b,off+i,none⟩=some (.int .i64 k)
 nil:a=none->n=0/\c=0
variable {w w':World}{a:Option Addr}{b3 bd c n s:Nat}{l:List Int}
theorem SlI.fr {S:Nat->Prop}(h:SlI w a n c l)(F:Fr S w w')(hS:∀ b off,a=some ⟨b,off,none⟩->b<w.heap.size->l≠[]->¬ S b):SlI w' a n c l:=
 ⟨h.len,fun i k hk=>by
  obtain⟨b,off,e,hb,h1⟩:=h.at_ i k hk;have hn:l≠[]:=by rintro rfl;simp at hk
  exact⟨b,off,e,nLL hb F.size,(F.cell (p:=⟨b,off+i,none⟩) hb (hS b off e hb hn)).trans h1⟩,h.nil⟩
theorem SlI.fr0 (h:SlI w a n c l)(F:Fq w w'):SlI w' a n c l:=h.fr F (fun _ _ _ _ _ h=>h)
theorem SlI.src (h:SlI w a n c l):ts0 w (.slice a n c) n (l.map (Value.int .i64)):=by
 refine⟨a,c,rfl,?_⟩;cases a with
 | none =>
  obtain⟨rfl,rfl⟩:=h.nil rfl;exact .inl ⟨rfl,rfl,rfl,by have:=h.len;rw[mJ9.1 this];rfl⟩
 | some ad =>
  refine .inr ⟨_,rfl,fun j u hj=>?_⟩;rw[gP] at hj;cases hl:l[j]? with
  | none=>rw[hl] at hj;cases hj
  | some k =>
   rw[hl] at hj;cases hj;obtain⟨b,off,e,_,hc⟩:=h.at_ j k hl;cases e;rw[aI0];exact hc
abbrev Ay0 (w:World)(base:Nat)(v:Value)(l:List Int):Prop:=w.ownsRow base 3 1 v l.length (l.map (Value.int .i64))
def xB0 (l:List Int)(w:World)(e:Ending)(w':World):Prop:=∃ v,e = .returned v/\Ay0 w' w.heap.size v l/\Fq w w'
theorem qS0 (h:SlI w a n c l)(hn:n<=100000):Calls Tryz.prog 187 #[.slice a n c] w (xB0 l w):=by
 obtain⟨i0,hi0,hz0,hz1,hz2⟩:=info_parts Tryz.info3;have q52:∀ (w:World) (a:Option Addr) (n c n' c':Nat),(binOp .eql 52 (.slice a n c) (.slice none n' c')).run Tryz.prog w = .ok (.bool a.isNone) w:=fun w a n c n' c'=>Lib.run_eql_slice_nil w _ _ a n c n' c' Tryz.underlying52
 cases a with
 | none =>
  obtain⟨rfl,rfl⟩:=h.nil rfl;have hl:l=[]:=mJ9.1 h.len;subst hl;clear h;go_enter Tryz.func187,Tryz.ntmps187;go_wp2_with fail
  go_ret;exact⟨_,rfl,World.ownsRow_nil _ _ _ _,Fr.refl _ _⟩
 | some ad =>
  have H:=hid h;have hll:=h.len;clear h;subst hll;go_enter Tryz.func187,Tryz.ntmps187;go_wp2_with (at_builtin;refine ag0 rfl (.tmp 5) (.tmp 6) 52 rfl w.heap.size 3 i0 _ 1 8 Tryz.underlying52 hi0 hz0 hz1 hz2 rfl dC _ _ _ rfl (gl0 _ _ (nR _) _ _ _ (by simp[go_sem])) _ l.length _ rfl ((H.out.fr0 ((Fr.refl _ _).alloc _)).src) sP (by intro u hu;obtain⟨x,_,rfl⟩:=ld9.1 hu;rfl) (by simp[maxLen];omega) oM sP ?_)
  intro v2 W2 hown2 hg2 hne2;have F12:Fr (fun b=>b=w.heap.size) w W2:=((Fr.refl (fun b=>b=w.heap.size) _).alloc _).trans (Fr.of_grownBy hg2) (fun b _ h=>h);have F1:Fq w W2:=F12.mono (fun b hb h=>oM);have HO:=hi2 hown2 F1;clear hown2 hg2 hne2 F12 F1;go_wp2_with fail
  go_ret;have ho:=HO.out.1;try simp only[le9,lp9] at ho
  exact⟨_,rfl,ho,HO.out.2⟩
def Ap0 (base:Nat)(v:Value)(l:List Int)(w:World)(e:Ending)(w':World):Prop:=
 e = .returned (.tuple #[])/\Ay0 w' base v (l.mergeSort (fun x y=>decide (x<=y)))/\Fr (fun b=>some b=v.ownBlock) w w'
theorem vv0 {base:Nat}{v:Value}(h:Ay0 w base v l)(hn:l.length<=100000):Calls Tryz.prog 141 #[v] w (Ap0 base v l w):=by
 by_cases hv:v = .slice none 0 0
 ·subst hv;have hl:l=[]:=by
   obtain⟨_,⟨_,h1⟩|⟨g,cap,cur,h1,_⟩⟩:=h
   ·exact mJ9.1 h1
   ·cases h1
  subst hl;refine (AnyM.slices_Sort_int_none Tryz.sortA none 0 w).mono ?_;rintro e w' ⟨rfl,rfl⟩;exact⟨rfl,by rw[List.mergeSort_nil];exact World.ownsRow_nil _ _ _ _,Fr.refl _ _⟩
 ·obtain⟨g,cap,rfl,hb,hg,hnc,hcm,hl,hH⟩:=Go.Lib.holds_of_ownsRow (enc:=Value.int .i64) h hv;refine (AnyM.slices_Sort_int Tryz.sortA g 0 cap l w hH hg oM).mono ?_;rintro e w' ⟨rfl,q,os,rfl⟩;have hlen:(l.mergeSort (fun x y=>decide (x<=y))).length=l.length:=List.length_mergeSort _;have h1:=Go.Lib.ownsRow_putRow (q:=q) (k:=l.length) (ys:=l.mergeSort (fun x y=>decide (x<=y))) h hlen (nR _);rw[tL (by rw[hlen];exact nR _)] at h1;have F1:Fr (fun b=>some b=(Value.slice (some ⟨g,0,none⟩) l.length cap).ownBlock) w (Go.Sort.putRow (Value.int .i64) (Go.Sort.ahead w q) g 0 (l.mergeSort (fun x y=>decide (x<=y))).toArray):=
   ⟨rfl,rfl,rfl,by simp[Go.Sort.putRow,Go.Sort.mapBlock,Go.Sort.ahead],fun b hb hn=>by
    have:g≠b:=fun e=>hn (by rw[e];rfl)
    simp[Go.Sort.putRow,Go.Sort.mapBlock,Go.Sort.ahead,Array.getElem?_modify,this]⟩
  have F2:∀ W:World,Fq W (Go.Sort.grow W os):=fun W =>
   ⟨rfl,rfl,rfl,by simp[Go.Sort.grow],fun b hb _=>by simp[Go.Sort.grow,Array.getElem?_append_left hb]⟩
  refine⟨rfl,?_,F1.trans (F2 _) nE⟩;have h2:=oRf h1 (F2 _) (fun _ _ _ h=>h);show World.ownsRow _ base 3 1 _ (l.mergeSort (fun x y=>decide (x<=y))).length _;rw[hlen];exact h2
def iM0 (n:Nat)(k:Int):Bool:=decide (k<0) || decide ((n:Int)<=k)
variable {x:aL0}
theorem xb0 (hD:aj0 w bd s x)(hb:w.heap[b3]?=some (.cells #[cR0 bd] 83))(hd:x.depth<=20)(k:Int):Calls Tryz.prog 124 #[.int .i64 k,.pointer (some ⟨b3,0,none⟩)] w (gW0 (.bool (iM0 x.slots k)) w):=by
 have HSl:=hid (ga0 hD hd);have cb:=coh hb 0;simp at cb;clear hD hb;by_cases h0:k<0
 ·have d1:decide (k<0)=true:=decide_eq_true h0;go_enter Tryz.func124,Tryz.ntmps124;go_wp2_with fail
  go_ret;exact⟨by simp[iM0,d1],0,rfl⟩
 ·have d1:decide (k<0)=false:=decide_eq_false h0;go_enter Tryz.func124,Tryz.ntmps124;go_wp2_with (go_at_call 125;refine HSl.out.mono ?_)
  rintro e W2 ⟨rfl,m,rfl⟩;go_wp2_with fail
  refine bodyPost_ret (v:=.bool (iM0 x.slots k)) (by simp[results,go_sem,iM0, *]) rfl ⟨rfl,m,rfl⟩
def Bu0 (n:Nat)(l:List Int)(w:World)(e:Ending)(w':World):Prop:=∃ z:Int,e = .returned (.int .i64 z)/\decide (0<=z)=l.any (iM0 n)/\∃ m,w'=w.drewN m
theorem ux0 (hD:aj0 w bd s x)(hb:w.heap[b3]?=some (.cells #[cR0 bd] 83))(hd:x.depth<=20)(h:SlI w a n c l)(hn:n<=100000) :
  Calls Tryz.prog 185 #[.slice a n c,.func (.func 124) #[] #[.pointer (some ⟨b3,0,none⟩)]] w (Bu0 x.slots l w):=by
 have H:=hid h;have HB:=hi2 hD hb;clear h hD hb;go_enter Tryz.func185,Tryz.ntmps185;go_wp2_with fail
 go_loopw [8] (fun i wr=>∃ k:Nat,k<=n/\i = .int .i64 k/\(∃ m,wr=w.drewN m)/\(l.take k).any (iM0 x.slots)=false) (fun i _=>n-(intOf i).toNat)
 case atStart=>exact⟨0,la9 _,rfl,⟨0,rfl⟩,rfl⟩
 case round =>
  obtain⟨k,hk,rfl,⟨m,rfl⟩,hall⟩:=hrel;have HA:=hid hall;clear hall;by_cases hlt:k<n
  ·have hdl:decide ((k:Int)<(n:Int))=true:=by simp;omega
   obtain⟨z,hz⟩:∃ z,l[k]?=some z:=⟨_,gE (by have:=H.out.len;omega)⟩
   obtain⟨b,off,rfl,hbl,hc⟩:=(H.out.fr0 ((Fr.refl _ _).drewN m)).at_ k z hz;have hki:(k:Int)<(n:Int):=oM
   have HS1:=hid (xb0 (w:=w.drewN m) (show aj0 (w.drewN m) bd s x from HB.out.1) (show (w.drewN m).heap[b3]?=_ from HB.out.2) hd z);have htk:(l.take (k+1)).any (iM0 x.slots)=iM0 x.slots z:=by rw[lw9,hz,List.any_append,HA.out];simp
   have HT:=hi2 htk hz;clear hz htk;generalize hob:iM0 x.slots z=ob at *
   have HOB:=hid hob;clear hob;go_wp2_with (go_at_call 124;refine HS1.out.mono ?_)
   rintro e W2 ⟨rfl,m2,rfl⟩;cases ob with
   | true =>
    go_wp2_with fail
    go_ret;refine⟨_,rfl,?_,_,rfl⟩;have h1:l.any (iM0 x.slots)=true:=md9.2 ⟨z,gM HT.out.2,HOB.out⟩;rw[h1];simp
   | false =>
    go_wp2_with fail
    go_roundw;case rel=>exact⟨k+1,hlt,by go_num,⟨m+m2,by simp[World.drewN,mw9]⟩,HT.out.1⟩
    case measure=>simp[intOf];omega
  ·obtain rfl:k=n:=by omega
   have hdl:decide ((k:Int)<(k:Int))=false:=by simp
   go_wp2_with fail
   go_ret;refine⟨_,rfl,?_,_,rfl⟩;have:=HA.out;rw[tL (by rw[H.out.len];exact nR _)] at this;rw[this];rfl
theorem ml0 (hD:aj0 w bd s x)(hb:w.heap[b3]?=some (.cells #[cR0 bd] 83))(hd:x.depth<=20)(h:SlI w a n c l)(hn:n<=100000) :
  Calls Tryz.prog 123 #[.slice a n c,.func (.func 124) #[] #[.pointer (some ⟨b3,0,none⟩)]] w (gW0 (.bool (l.any (iM0 x.slots))) w):=by
 have HI:=hid (ux0 hD hb hd h hn);clear hD hb h;go_enter Tryz.func123,Tryz.ntmps123;go_wp2_with (go_at_call 185;refine HI.out.mono ?_)
 rintro e W2 ⟨z,rfl,hz,m,rfl⟩;have HZ:=hid hz;clear hz;go_wp2_with fail
 refine bodyPost_ret (v:=.bool (decide (0<=z))) (by simp[results,go_sem]) rfl ⟨by rw[HZ.out],m,rfl⟩
end
section
open Go.RowKit Go.Sg
variable {P:Program}{o:Oper}{a:Act}{w:World}{K:Act->World->Prop}{Q:Exit->Act->World->Prop}
theorem lO0 {ops:Array Oper}{E:Prop}(hgd:o.guard=none)(s x:Operand)(t:TypeId)
  (ho:o.op = .call { callee:=.builtin .append,args:=#[s,x],argTypes:=#[t,t] }) (base:Nat) (e:TypeId) (i:TypeInfo) (z:Value) (size bytes:Nat) (ht:P.underlying t=some (.slice e)) (hi:P.info? e=some i) (hz:i.zero=some z)
  (hsize:i.size=size) (hby:i.bytes=bytes) (hzs:z.cells.size=size) (hsz:0<size) (v:Value) (n:Nat) (xs:List Value) (hs:a.eval s=v) (hown:w.ownsRow base e size v n xs)
  (vx:Value) (m:Nat) (news:List Value) (hx:a.eval x=vx) (hsrc:ts0 w vx m news) (hl:news.length=m*size) (h1:∀ u ∈ news,u.oneCell'=true) (h63:n+m<=maxLen) (hbytes:(n+m)*bytes<=140737488355328) (hbase:base<=w.heap.size)
  (h:∀ v' w',w'.ownsRow base e size v' (n+m) (xs++news)->w.grownBy w' v.ownBlock->K (a.put o.dst v') w') :
  if Region.wanted o (yielded ops a.tmps)=true then Oper.wp P o a w K Q else E:=by
 have hw:Region.wanted o (yielded ops a.tmps)=true:=by simp[Region.wanted,hgd]
 rw[if_pos hw];obtain⟨a',c,rfl,⟨rfl,rfl,rfl,rfl⟩|⟨ad,rfl,hc⟩⟩:=hsrc
 ·have hrun:=run_append_owned_none (P:=P) (w:=w) base t o.type e i size ht hi v n xs hown;unfold Oper.wp;simp[execOp,ho,resolve,invoke,builtin,hs,hx,hrun,Result.andThen];exact h v w (by simpa using hown) ⟨rfl,rfl,rfl,nR _,fun _ _ _=>rfl⟩
 ·obtain⟨v',w',hr,h2,h3,h4,h5⟩:=run_append_own_at (P:=P) w base t o.type e i z size bytes ht hi hz hsize hby hzs hsz v n xs hown ad m c news hl hc h1 h63 hbytes hbase;unfold Oper.wp execOp;simp only[ho,resolve,invoke,builtin,Sem.run_bind,Sem.run_pure,Result.andThen_ok,nv9,mj9,mH9,hs,hx,hr];exact h v' w' h2 h3
theorem fP0 (hgd:o.guard=none)(s x:Operand)(t:TypeId)
  (ho:o.op = .call { callee:=.builtin .append,args:=#[s,x],argTypes:=#[t,t] }) (base:Nat) (e:TypeId) (i:TypeInfo) (z:Value) (size bytes:Nat) (ht:P.underlying t=some (.slice e)) (hi:P.info? e=some i) (hz:i.zero=some z)
  (hsize:i.size=size) (hby:i.bytes=bytes) (hzs:z.cells.size=size) (hsz:0<size) (v:Value) (n:Nat) (xs:List Value) (hs:a.eval s=v) (hown:w.ownsRow base e size v n xs)
  (vx:Value) (m:Nat) (news:List Value) (hx:a.eval x=vx) (hsrc:ts0 w vx m news) (hl:news.length=m*size) (h1:∀ u ∈ news,u.oneCell'=true) (h63:n+m<=maxLen) (hbytes:(n+m)*bytes<=140737488355328) (hbase:base<=w.heap.size)
  (h:∀ v' w',w'.ownsRow base e size v' (n+m) (xs++news)->w.grownBy w' v.ownBlock->K (a.put o.dst v') w'):Oper.wp P o a w K Q:=by
 have hw:Region.wanted o (yielded #[] a.tmps)=true:=by simp[Region.wanted,hgd]
 have:=lO0 (ops:=#[]) (E:=True) hgd s x t ho base e i z size bytes ht hi hz hsize hby hzs hsz v n xs hs hown vx m news hx hsrc hl h1 h63 hbytes hbase (K:=K) (Q:=Q) h;rwa [if_pos hw] at this
theorem ac0 {b b' e size n:Nat}{v:Value}{xs:List Value}(h:w.ownsRow b e size v n xs)(hb:b'<=b):w.ownsRow b' e size v n xs:=by
 obtain⟨hl,h0|⟨g,cap,cur,hv,hg,r⟩⟩:=h
 ·exact⟨hl,.inl h0⟩
 ·exact⟨hl,.inr ⟨g,cap,cur,hv,nT hb hg,r⟩⟩
theorem qi0 {V W:World}{g n cap:Nat}(F:Fq w V)(h:V.grownBy W (Value.slice (some ⟨g,0,none⟩) n cap).ownBlock)(hg:w.heap.size<=g):Fq w W:=
 (F.trans (Fr.of_grownBy h) (fun b hb e=>by
  have e':b=g:=e;omega))
theorem jf0 {b n c:Nat}{a:Option Addr}{l:List Int}(h:w.ownsRow b 3 1 (.slice a n c) n (l.map (Value.int .i64)))(hl:l.length=n):SlI w a n c l:=by
 subst hl;obtain⟨a',c',e,-,-,hnil,-⟩:=oSl h;cases e;refine⟨rfl,fun i k hk=>?_,hnil⟩;obtain⟨g,e',hg,h1⟩:=al0 h (j:=i) (u:=.int .i64 k) (by rw[gP,hk];rfl);exact⟨g,0,e',hg,by rw[lp9];exact h1⟩
end
section
open Go.RowKit Go.Sg CP SF
def ak0 (oldest:Int)(x:Bt):Bool:=decide (oldest<=x.rg)
variable {w:World}{b3 bits h:Nat}{v:Value}
theorem oN0 {oldest:Int}(hb:w.heap[b3]?=some (.cells #[.int .i64 oldest] 3))(x:Bt) :
  Calls Tryz.prog 194 #[btV x,.pointer (some ⟨b3,0,none⟩)] w (ec0 (.bool (ak0 oldest x)) w):=by
 obtain⟨w1,hw1⟩:=eX (w.alloc (.cells #[.int .u64 x.hash,.int .i64 x.rg,.int .i64 x.at_,.int .i64 x.sz] 118))
 have b1:w1.heap[w.heap.size]?=some (.cells #[.int .u64 x.hash,.int .i64 x.rg,.int .i64 x.at_,.int .i64 x.sz] 118):=by rw[<- hw1];exact han _ _
 have F1:Fq w w1:=by rw[<- hw1];exact (Fr.refl _ _).alloc _
 have HF:=hid F1;obtain⟨t0,t1,t2,t3,tz,tl⟩:=ah0 b1;have c0:=coh (F1.heap hb id) 0;simp at c0;obtain⟨bb,hbb⟩:∃ bb,decide (oldest<=x.rg)=bb:=⟨_,rfl⟩
 have hfb:ak0 oldest x=bb:=hbb;have HB:=hid hfb;have HW:=hid hw1;clear hw1 b1 F1 hb hfb;go_enter Tryz.func194,Tryz.ntmps194;go_upto_region 1 with fail
 rw[HW.out];go_wp2_with fail
 go_ret;exact⟨by rw[HB.out];rfl,HF.out⟩
def BkP (d p:Int)(es:List Bt)(w:World)(e:Ending)(w':World):Prop:=∃ a c,e = .returned (bkV d p (.slice a es.length c))/\bm0 w' w.heap.size (.slice a es.length c) es/\Fq w w'
variable {es:List Bt}
theorem kO0 (hE:bm0 w 0 v es)(hl:es.length<=255)(d p oldest:Int) :
  Calls Tryz.prog 132 #[bkV d p v,.int .i64 oldest] w (BkP d p (es.filter (ak0 oldest)) w):=by
 obtain⟨va,vc,rfl,-,-,-,-⟩:=oSl hE;obtain⟨n,hn⟩:=eX es.length
 obtain⟨w1,hw1⟩:=eX (((w.alloc (.cells #[.int .i64 d,.int .i64 p,.slice va n vc] 129)).alloc (.cells #[.int .i64 oldest] 3)).alloc (.cells #[.int .i64 0,.int .i64 0,.slice none 0 0] 129))
 obtain⟨b0,b1,b2,F1⟩:=aO0 hw1;have HB:=hid (fun W (F:Fq w1 W)=>aI (cells3 (F.heap b0 id)) (cells3 (F.heap b2 id)));have hE1:=oN hE F1;have HPt:=hid (lY0 hE1 hl ⟨w.heap.size+1,0,none⟩ (ak0 oldest) (fun x _ W F=>oN0 (F.heap b1 id) x));have HF1:=hid F1;have HN:=hid hn;have hsz:w1.heap.size=w.heap.size+3:=by rw[<- hw1];simp
 have HSz:=hid hsz;obtain⟨⟨x0,x1,x2,xz,xl⟩,⟨y0,y1,y2,yz,yl⟩⟩:=HB.out _ (Fr.refl _ _);have HW:=hid hw1;rw[hn] at HPt ⊢;clear hw1 b0 b1 b2 F1 hE hl hn hsz hE1;go_enter Tryz.func132,Tryz.ntmps132;go_upto_region 1 with fail
 rw[HW.out];go_wp2_with fail
 refine HPt.out.mono ?_;rintro e w2 ⟨v1,v2,rfl,⟨h1,-⟩,-,F2⟩;obtain⟨a1,c1,rfl,-,-,-,-⟩:=oSl h1;have H2:=hi2 h1 F2;clear h1 F2 x0 x1 x2 xz xl y0 y1 y2 yz yl;obtain⟨⟨x0,x1,x2,xz,xl⟩,⟨y0,y1,y2,yz,yl⟩⟩:=HB.out _ H2.out.2;go_wp2_with fail
 refine (iS0 d p va n vc a1 (es.filter (ak0 oldest)).length c1 w2).mono ?_;rintro e w3 ⟨rfl,F3⟩;have HF3:=hid F3;have hs3:w.heap.size+2<w3.heap.size:=nLL yl F3.size;clear F3 x0 x1 x2 xz xl y0 y1 y2 yz yl;obtain⟨⟨x0,x1,x2,xz,xl⟩,⟨y0,y1,y2,yz,yl⟩⟩:=HB.out _ (H2.out.2.trans HF3.out nI);go_wp2_with fail
 have FS:∀ (W:World) (o:Nat) (u:Value),Fr (fun b=>b=w.heap.size+2) W (W.setCell ⟨w.heap.size+2,o,none⟩ u):=fun W o u=>(Fr.refl (fun b=>b=w.heap.size+2) _).setCell (a:=⟨w.heap.size+2,o,none⟩) (fun _=>rfl) u
 refine bodyPost_ret (v:=bkV d p (.slice a1 (es.filter (ak0 oldest)).length c1)) sR rfl ⟨a1,c1,rfl,?_,?_⟩
 ·have hs:=HSz.out;exact aS0 (ac0 (oN H2.out.1 HF3.out) oM) (((FS _ _ _).trans (FS _ _ _) nI).trans (FS _ _ _) nI) (fun g hg e=>by
   have:=(aW0 H2.out.1 hg).1;omega)
 ·exact ((((HF1.out.trans H2.out.2 nI).trans HF3.out nI).an0 oM _).an0 oM _).an0 oM _
def aY0 (h bits:Nat):Nat:=if bits<1\/30<bits then 0 else h/2^(64-bits)
theorem zt0 (hh:h<18446744073709551616)(hb:bits<=20):aY0 h bits<1048576:=by
 unfold aY0;split
 ·omega
 ·have h1:h/2^(64-bits)<=h/2^44:=Nat.div_le_div_left (lc9 dC oM) dC;have h2:h/2^44<1048576:=by
   rw[show (2:Nat)^44=17592186044416 by decide];omega
  omega
theorem uV0 (hh:h<18446744073709551616)(hb:bits<=20)(h0:¬ bits<1):wrap64 ((h:Int)/2^(64-bits))=(aY0 h bits:Int):=by
 have h1:=zt0 hh hb;have e:(h:Int)/2^(64-bits)=(aY0 h bits:Int):=by
  unfold aY0;rw[if_neg oM];simp
 rw[e];generalize aY0 h bits=z at *
 simp only[wrap64];omega
theorem ih0 (h bits:Nat)(hh:h<18446744073709551616)(hb:bits<=20)(w:World):Calls Tryz.prog 191 #[.int .u64 h,.int .i64 bits] w (tl0 (aY0 h bits) w):=by
 by_cases h0:bits<1
 ·have d0:decide (bits<1)=true:=by simp;omega
  have hp:aY0 h bits=0:=by unfold aY0;rw[if_pos (.inl h0)]
  rw[hp];obtain rfl:bits=0:=oM
  go_enter Tryz.func191,Tryz.ntmps191;go_wp2_with fail
  go_ret;exact⟨rfl,rfl⟩
 ·have d0:decide ((bits:Int)<1)=false:=by simp;omega
  have d1:decide ((30:Int)<(bits:Int))=false:=by simp;omega
  have hp:aY0 h bits=h/2^(64-bits):=by unfold aY0;rw[if_neg oM]
  have HP:=hid hp;clear hp;go_enter Tryz.func191,Tryz.ntmps191;go_wp2_with fail
  go_ret;exact⟨by rw[<- uV0 hh hb h0];rfl,rfl⟩
def be0 (d:Nat)(x:Bt):Bool:=decide (aY0 x.hash (d+1) % 2=1)
theorem sJ0 {d:Nat}{p:Int}(hb:w.heap[b3]?=some (.cells #[.int .i64 d,.int .i64 p,v] 129))(hd:d<20)(x:Bt)(hx:x.hash<18446744073709551616) :
  Calls Tryz.prog 247 #[btV x,.pointer (some ⟨b3,0,none⟩)] w (ec0 (.bool (be0 d x)) w):=by
 obtain⟨w1,hw1⟩:=eX (w.alloc (.cells #[.int .u64 x.hash,.int .i64 x.rg,.int .i64 x.at_,.int .i64 x.sz] 118))
 have b1:w1.heap[w.heap.size]?=some (.cells #[.int .u64 x.hash,.int .i64 x.rg,.int .i64 x.at_,.int .i64 x.sz] 118):=by rw[<- hw1];exact han _ _
 have F1:Fq w w1:=by rw[<- hw1];exact (Fr.refl _ _).alloc _
 have HF:=hid F1;obtain⟨t0,t1,t2,t3,tz,tl⟩:=ah0 b1;obtain⟨c0,c1,c2,cz,cl⟩:=cells3 (F1.heap hb id);have HP:=hid (ih0 x.hash (d+1) hx oM w1);obtain⟨q,hq⟩:=eX (aY0 x.hash (d+1))
 obtain⟨bb,hbb⟩:=eX (decide (q % 2=1))
 have hbq:((q:Int) % 2 == 1)=bb:=by
  rw[<- hbb,Bool.eq_iff_iff];simp;omega
 have hbt:((q:Int).tmod 2 == 1)=bb:=by
  rw[Int.tmod_eq_emod_of_nonneg oM];exact hbq
 have HB:=hid (show be0 d x=bb by unfold be0;rw[hq];exact hbb);rw[hq] at HP;have HW:=hid hw1;clear hw1 b1 F1 hb hq hbb;go_enter Tryz.func247,Tryz.ntmps247;go_upto_region 1 with fail
 rw[HW.out];go_wp2_with fail
 refine HP.out.mono ?_;rintro e _ ⟨rfl,rfl⟩;go_wp2_with fail
 go_ret;exact⟨by rw[HB.out];rfl,HF.out⟩
def yZ0 (d p:Nat)(es:List Bt)(w:World)(e:Ending)(w':World):Prop:=
 ∃ a0 c0 a1 c1,e = .returned (.agg #[.int .i64 ((d+1:Nat):Int),.int .i64 ((2*p:Nat):Int),.slice a0 (es.filter fun x=>!be0 d x).length c0,.int .i64 ((d+1:Nat):Int),.int .i64 ((2*p+1:Nat):Int),.slice a1 (es.filter (be0 d)).length c1]) /\
  bm0 w' w.heap.size (.slice a0 (es.filter fun x=>!be0 d x).length c0) (es.filter fun x=>!be0 d x)/\bm0 w' w.heap.size (.slice a1 (es.filter (be0 d)).length c1) (es.filter (be0 d))/\Fq w w'
theorem kL0 (hE:bm0 w 0 v es)(hl:es.length<=255)(hx:∀ x ∈ es,x.hash<18446744073709551616)(d p:Nat)(hd:d<20)(hp:p<1048576) :
  Calls Tryz.prog 196 #[bkV d p v] w (yZ0 d p es w):=by
 obtain⟨va,vc,rfl,-,-,-,-⟩:=oSl hE;obtain⟨n,hn⟩:=eX es.length
 obtain⟨w1,hw1⟩:=eX ((w.alloc (.cells #[.int .i64 d,.int .i64 p,.slice va n vc] 129)).alloc (.cells #[.int .i64 0,.int .i64 0,.slice none 0 0,.int .i64 0,.int .i64 0,.slice none 0 0] 301))
 obtain⟨b0,b1,F1⟩:=ai0 hw1;have HB:=hid (fun W (F:Fq w1 W)=>aI (cells3 (F.heap b0 id)) (aU0 (F.heap b1 id)));have hE1:=oN hE F1;have HPt:=hid (lX0 hE1 hl ⟨w.heap.size,0,none⟩ (be0 d) (fun x hxm W F=>sJ0 (F.heap b0 id) hd x (hx x hxm)));have HF1:=hid F1;have HN:=hid hn;have hsz:w1.heap.size=w.heap.size+2:=by rw[<- hw1];simp
 have HSz:=hid hsz;obtain⟨⟨x0,x1,x2,xz,xl⟩,⟨y0,y1,y2,y3,y4,y5,yz,yl⟩⟩:=HB.out _ (Fr.refl _ _);have HW:=hid hw1;rw[hn] at HPt ⊢;clear hw1 b0 b1 F1 hE hl hn hsz hE1 hx;go_enter Tryz.func196,Tryz.ntmps196;go_upto_region 1 with fail
 rw[HW.out];go_wp2_with fail
 refine HPt.out.mono ?_;rintro e w2 ⟨v1,v2,rfl,⟨h1,h2⟩,-,F2⟩;obtain⟨a1,c1,rfl,-,-,-,-⟩:=oSl h1;obtain⟨a0,c0,rfl,-,-,-,-⟩:=oSl h2;have H2:=hi2 h1 (aI h2 F2);clear h1 h2 F2 x0 x1 x2 xz xl y0 y1 y2 y3 y4 y5 yz yl;obtain⟨⟨x0,x1,x2,xz,xl⟩,⟨y0,y1,y2,y3,y4,y5,yz,yl⟩⟩:=HB.out _ H2.out.2.2;go_wp2_with fail
 have FS:∀ (W:World) (o:Nat) (u:Value),Fr (fun b=>b=w.heap.size+1) W (W.setCell ⟨w.heap.size+1,o,none⟩ u):=fun W o u=>(Fr.refl (fun b=>b=w.heap.size+1) _).setCell (a:=⟨w.heap.size+1,o,none⟩) (fun _=>rfl) u
 have hs:=HSz.out;have F6:∀ u0 u1 u2 u3 u4 u5:Value,Fr (fun b=>b=w.heap.size+1) w2 ((((((w2.setCell ⟨w.heap.size+1,0,none⟩ u0).setCell ⟨w.heap.size+1,1,none⟩ u1).setCell ⟨w.heap.size+1,2,none⟩ u2).setCell ⟨w.heap.size+1,3,none⟩ u3).setCell ⟨w.heap.size+1,4,none⟩ u4).setCell ⟨w.heap.size+1,5,none⟩ u5):=fun u0 u1 u2 u3 u4 u5 =>
  ((((((FS _ _ _).trans (FS _ _ _) nI).trans (FS _ _ _) nI).trans (FS _ _ _) nI).trans (FS _ _ _) nI).trans (FS _ _ _) nI)
 have F0:=HF1.out.trans H2.out.2.2 nI;have HO:=hid (fun (v:Value) (l:List Bt) (h:bm0 w2 w1.heap.size v l) (u0 u1 u2 u3 u4 u5:Value)=>(aS0 (ac0 h oM) (F6 u0 u1 u2 u3 u4 u5) (fun g hg e=>by
   have:=(aW0 h hg).1;omega):bm0 _ w.heap.size v l))
 have HA:=hid H2.out.1;have HB2:=hid H2.out.2.1;have HF6:=hid (fun u0 u1 u2 u3 u4 u5=>F0.trans (F6 u0 u1 u2 u3 u4 u5) (fun b hb e=>oM));clear FS F6 F0 hs;refine bodyPost_ret (v:=.agg #[.int .i64 ((d:Int)+1),.int .i64 (2*(p:Int)),.slice a0 (es.filter fun x=>!be0 d x).length c0,.int .i64 ((d:Int)+1),.int .i64 (2*(p:Int)+1),.slice a1 (es.filter (be0 d)).length c1]) sR rfl ⟨a0,c0,a1,c1,by simp,HO.out _ _ HB2.out _ _ _ _ _ _,HO.out _ _ HA.out _ _ _ _ _ _,HF6.out _ _ _ _ _ _⟩
end
end Go.Proofs.YtgdhaaokolfdoaaGreatDoor
namespace Go.Sg
open Go.RowKit
section
variable {n:Nat}{P:Program}{ops:Array Oper}{Q:Exit->Act->World->Prop}{lp:Nat}
def eO0 (ops:Array Oper):Bool:=ops.toList.all fun o=>match o.op with
 | .defer _=>false
 | _=>true
theorem pV0 (h:eO0 ops=true)(i:Nat)(o:Oper)(hi:ops[i]?=some o)(c:Call):o.op≠.defer c:=by
 intro e;have h1:=ns9.1 h o (by
  have:=gM (l:=ops.toList) (i:=i) (a:=o) (by simpa using hi);exact this)
 rw[e] at h1;cases h1
variable {w:World}{a:Act}{K:Act->World->Prop}{i id:Nat}
theorem pK0 {row:String}{args:Array Value}{R:Value->World->Prop}(h:Rows P row args w R):RowsIn (Fence.wide.inRound lp) n P row args w R:=fun c cs _=>by
 obtain⟨v,w',r,s⟩:=h c cs;exact⟨v,w',r,stepsIn_wide.2 s⟩
theorem oZ0 (f:FuncId):(Fence.wide.inRound lp).fn f:=trivial
theorem pS0 {o:Oper}(hd:∀ c,o.op≠.defer c){K':Act->World->Prop}(hK:∀ a w,K a w->K' a w)(h:o.wp P a w K Q):o.wpIn (Fence.wide.inRound lp) n P a w K' Q:=by
 unfold Oper.wp at h;unfold Oper.wpIn;refine⟨fun f _=>oZ0 f,?_⟩;rw[Oper.semAt_eq _ _ _ hd];generalize (execOp a.eval o).run P w=r at *
 cases r with
 | ok x w' =>
  cases x <;> simp only[Oper.upon] at h <;> simp only[Oper.uponIn]
  case value u=>exact hK _ _ h
  case skip=>exact hK _ _ h
  case defer d=>exact hK _ _ h
  case enter f args =>
   refine⟨fun h=>(by cases h),CallsIn.inRound lp (callsIn_wide.2 (h.mono fun e w'' he=>?_))⟩;cases e with
   | returned v=>exact hK _ _ he
   | panicked c=>exact he
   | outgrown=>exact he
  case row row args=>exact⟨fun h=>(by cases h),(pK0 h).mono fun v w'' he=>hK _ _ he⟩
 | halt x w'=>cases x <;> simp only[Oper.upon] at h <;> simp only[Oper.uponIn] <;> exact h
theorem eN0 (hd:eO0 ops=true)(hl:¬ LetsOut Q):∀ (l:List Nat) (a:Act) (w:World),wpOps P ops Q l a w->wpOpsIn (Fence.wide.inRound lp) n P ops Q l a w
 | [],_,_,h=>h
 | i :: rest,a,w,h=>by
  simp only[wpOps] at h;simp only[wpOpsIn];cases ho:ops[i]? with
  | none=>simp only[ho] at h ⊢;exact eN0 hd hl rest a w h
  | some o =>
   simp only[ho] at h ⊢;by_cases hw:Region.wanted o (yielded ops a.tmps)=true
   ·simp only[hw,if_true] at h ⊢;rcases h with h|⟨_,h⟩
    ·exact pS0 (pV0 hd i o ho) (fun a w h=>eN0 hd hl rest a w h) h
    ·exact absurd h hl
   ·simp only[hw] at h ⊢;exact⟨fun f _=>oZ0 f,eN0 hd hl rest _ _ h⟩
theorem fH0 (hm:P.follows .mixedOrders=true)(hd:eO0 ops=true)(hl:¬ LetsOut Q)
  (h:wpAny P .any ops Q ops.size (Array.replicate ops.size false) a { w with drawn:=w.drawn+1 }):(Code.region id ops true).wpIn (Fence.wide.inRound lp) n P Q a w:=
 wpIn_region_draw fun t=>by
  simp only[Region.schedule,hm,Bool.true_or,if_true];exact eN0 hd hl _ _ _ (wpAny_sound ops.size t _ a _ h)
theorem fS0 {l:List Oper}(n':Nat)(hm:P.follows .mixedOrders=true)(hd:eO0 l.toArray=true)(hl:¬ LetsOut Q)(hB:Region.lexTailB .any l.toArray n'=true)
  (h:wpStill P l.toArray w.drew (fun a'=>wpList P l.toArray Q (l.drop n') a' w.drew) (l.take n') a):(Code.region id l.toArray true).wpIn (Fence.wide.inRound lp) n P Q a w:=by
 simp only[Region.lexTailB,mp9,decide_eq_true_eq] at hB;obtain⟨⟨⟨⟨hsel,hn⟩,hs⟩,hc⟩,hlex⟩:=hB;have hn':n'<l.length:=by simpa using hn
 have htl:(l.take n').length=n':=by simp;omega
 have hdl:(l.drop n').length=l.toArray.size-n':=by simp
 have inv0:HeadInv .any l.toArray n' (Array.replicate l.toArray.size false):=
  ⟨by simp,fun j oj _ hl=>(by rw[getD_replicate_false] at hl;cases hl),fun t _ ht=>getD_in (by simpa using ht) (getD_replicate_false _ _)⟩
 have H:=wpAnyL_lex (md:=.any) (g:=l.toArray.size-n') hsel hs hc hn (l.take n') 0 _ a (fun j hj=>by
  have hj':j<n':=by rw[htl] at hj;exact hj
  simp[hj']) (by simpa using htl) inv0 (by rw[htl];exact hlex) h
 refine fH0 hm hd hl ?_;have:=wpAny_of_head (Q':=Q) (g:=l.toArray.size-n') (fun listed a' hL=>by
  have:=wpAny_of_seq (md:=.any) (Q':=Q) (l.drop n') n' listed a' { w with drawn:=w.drawn+1 } (fun j=>by simp[lB9]) (by rw[hdl];exact hL.1) hL.2;rwa [hdl] at this) _ _ _ H
 rw[htl,show n'+(l.toArray.size-n')=l.toArray.size by omega] at this;exact this
variable {md:Region.Mode}{S:World->Prop}
inductive Pl where
 | done
 | rd (i:Nat) (p:Pl)
 | op (i:Nat) (p:Pl)
 | two (i j:Nat) (p q:Pl)
def bZ0 (P:Program)(md:Region.Mode)(ops:Array Oper)(Q:Exit->Act->World->Prop)(S:World->Prop):Pl->Act->World->Prop
 | .done,a,w=>Q .normal a w
 | .rd i p,a,w=>∃ v o,ops[i]?=some o/\YieldsIf P ops S o v a/\bZ0 P md ops Q S p (a.put o.dst v) w
 | .op i p,a,w=>wpOp P ops Q i (fun a' w'=>S w'/\bZ0 P md ops Q S p a' w') a w
 | .two i j p q,a,w=>wpOp P ops Q i (fun a' w'=>S w'/\bZ0 P md ops Q S p a' w') a w/\wpOp P ops Q j (fun a' w'=>S w'/\bZ0 P md ops Q S q a' w') a w
def eJ0 (md:Region.Mode)(ops:Array Oper):Nat->Pl->Array Bool->Bool
 | _,.done,listed=>(Region.ready md ops listed).isEmpty
 | n+1,.rd i p,listed=>Region.free md ops listed i && (Region.ready md ops listed).contains i && eJ0 md ops n p (listed.setIfInBounds i true)
 | n+1,.op i p,listed=>decide (Region.ready md ops listed=[i]) && eJ0 md ops n p (listed.setIfInBounds i true)
 | n+1,.two i j p q,listed=>decide (Region.ready md ops listed=[i,j]) && eJ0 md ops n p (listed.setIfInBounds i true) && eJ0 md ops n q (listed.setIfInBounds j true)
 | 0,_,_=>false
theorem bV0 (hs:Region.noSelect ops=true)(hQ:∀ c a d v w,Q (.panic c) (Act.put a d v) w->Q (.panic c) a w):∀ (n:Nat) (l:Pl) (listed:Array Bool) (a:Act) (w:World),eJ0 md ops n l listed=true->S w->bZ0 P md ops Q S l a w->wpAnyH P md ops Q S n listed a w
 | _,.done,listed,a,w,hB,_,h=>wpAnyH_done (by simpa[eJ0] using hB) h _
 | 0,.rd _ _,_,_,_,hB,_,_=>by simp[eJ0] at hB
 | 0,.op _ _,_,_,_,hB,_,_=>by simp[eJ0] at hB
 | 0,.two _ _ _ _,_,_,_,hB,_,_=>by simp[eJ0] at hB
 | n+1,.rd i p,listed,a,w,hB,hS,h=>by
  simp only[eJ0,mp9] at hB;obtain⟨v,o,ho,hy,hr⟩:=h;exact wpAnyH_take ho hs hB.1.1 hB.1.2 (fun c a w=>hQ c a _ _ w) hy hS (bV0 hs hQ n p _ _ _ hB.2 hS hr)
 | n+1,.op i p,listed,a,w,hB,hS,h=>by
  simp only[eJ0,mp9,decide_eq_true_eq] at hB;refine wpAnyH_all (rs:=[i]) hB.1 sP fun j hj=>?_
  have e:j=i:=by simpa using hj
  subst e;exact wpOp_mono (fun a' w' h'=>⟨h'.1,bV0 hs hQ n p _ _ _ hB.2 h'.1 h'.2⟩) h
 | n+1,.two i j p q,listed,a,w,hB,hS,h=>by
  simp only[eJ0,mp9,decide_eq_true_eq] at hB;refine wpAnyH_all (rs:=[i,j]) hB.1.1 sP fun k hk=>?_
  have e:k=i\/k=j:=by simpa using hk
  rcases e with rfl|rfl
  ·exact wpOp_mono (fun a' w' h'=>⟨h'.1,bV0 hs hQ n p _ _ _ hB.1.2 h'.1 h'.2⟩) h.1
  ·exact wpOp_mono (fun a' w' h'=>⟨h'.1,bV0 hs hQ n q _ _ _ hB.2 h'.1 h'.2⟩) h.2
theorem cK0 (S:World->Prop)(l:Pl)(hm:P.follows .mixedOrders=true)(hd:eO0 ops=true)(hs:Region.noSelect ops=true)(hB:eJ0 .any ops ops.size l (Array.replicate ops.size false)=true)
  (hl:¬ LetsOut Q) (hQ:∀ c a d v w,Q (.panic c) (Act.put a d v) w->Q (.panic c) a w) (hS:S w.drew) (h:bZ0 P .any ops Q S l a w.drew):(Code.region id ops true).wpIn (Fence.wide.inRound lp) n P Q a w:=
 fH0 hm hd hl (wpAny_of_held (S:=S) _ _ _ _ (bV0 hs hQ _ l _ _ _ hB hS h))
theorem aq0 (S:World->Prop)(l:Pl)(hm:P.follows .mixedOrders=true)(hs:Region.noSelect ops=true)(hB:eJ0 .any ops ops.size l (Array.replicate ops.size false)=true)
  (hQ:∀ c a d v w,Q (.panic c) (Act.put a d v) w->Q (.panic c) a w) (hS:S w.drew) (h:bZ0 P .any ops Q S l a w.drew):(Code.region id ops true).wp P Q a w:=
 wp_region_any hm (wpAny_of_held (S:=S) _ _ _ _ (bV0 hs hQ _ l _ _ _ hB hS h))
theorem ar0 (h:Q .normal a w):bZ0 P md ops Q S .done a w:=h
variable {p:Pl}
theorem ay0 (o:Oper)(v:Value)(ho:ops[i]?=some o)(hw:Region.wanted o (yielded ops a.tmps)=true)(hr:∀ w,S w->(execOp a.eval o).run P w = .ok (.value v) w)(h:bZ0 P md ops Q S p (a.put o.dst v) w):bZ0 P md ops Q S (.rd i p) a w:=
 ⟨v,o,ho,.inl ⟨hw,hr⟩,h⟩
theorem xt0 (o:Oper)(ho:ops[i]?=some o)(hw:Region.wanted o (yielded ops a.tmps)=true)
  (h:∀ K':Act->World->Prop,(∀ a' w',K a' w'->K' a' w')->Oper.wp P o a w K' Q):wpOp P ops Q i K a w:=by
 unfold wpOp;simp only[ho,hw,if_true];exact .inl (h _ fun a' w' h1=>h1)
theorem az0 (o:Oper)(ho:ops[i]?=some o)(hw:Region.wanted o (yielded ops a.tmps)=true)
  (h:∀ K:Act->World->Prop,(∀ a' w',S w'->bZ0 P md ops Q S p a' w'->K a' w')->Oper.wp P o a w K Q):bZ0 P md ops Q S (.op i p) a w:=
 xt0 o ho hw fun K hK=>h K fun a' w' h1 h2=>hK a' w' ⟨h1,h2⟩
theorem bn0 {j:Nat}{q:Pl}(h1:bZ0 P md ops Q S (.op i p) a w)(h2:bZ0 P md ops Q S (.op j q) a w):bZ0 P md ops Q S (.two i j p q) a w:=⟨h1,h2⟩
end
end Go.Sg
namespace Go.Proofs.YtgdhaaokolfdoaaGreatDoor
open Go.RowKit Go.Sg CP SF
theorem nA0 (n:Int)(w:World):Calls Tryz.prog 276 #[.int .i64 n] w (kV0 false w):=by
 go_enter Tryz.func276,Tryz.ntmps276;go_wp2_with fail
 go_ret;exact⟨rfl,rfl⟩
def na0 (x y:Int):Int:=if x<y then -1 else if y<x then 1 else 0
theorem nZ0 (x y:Int)(w:World):Calls Tryz.prog 249 #[.int .i64 x,.int .i64 y] w (tl0 (na0 x y) w):=by
 have key:(decide (x<y)=true/\na0 x y = -1)\/(decide (x<y)=false/\decide (y<x)=true/\na0 x y=1)\/(decide (x<y)=false/\decide (y<x)=false/\na0 x y=0):=by
  unfold na0;by_cases h1:x<y
  ·left;rw[if_pos h1];exact⟨by simp;omega,rfl⟩
  ·right;by_cases h2:y<x
   ·left;rw[if_neg h1,if_pos h2];exact⟨by simp;omega,by simp;omega,rfl⟩
   ·right;rw[if_neg h1,if_neg h2];exact⟨by simp;omega,by simp;omega,rfl⟩
 rcases key with⟨d1,e⟩|⟨d1,d2,e⟩|⟨d1,d2,e⟩
 all_goals
  rw[e];clear e;go_enter Tryz.func249,Tryz.ntmps249;go_wp2_with fail
  refine (nA0 x w).mono ?_;rintro e _ ⟨rfl,rfl⟩;go_wp2_with fail
  refine (nA0 y w).mono ?_;rintro e _ ⟨rfl,rfl⟩;go_wp2_with fail
  go_ret;exact⟨rfl,rfl⟩
def orZ (x y:Int):Int:=if x=0 then y else x
theorem AU0 {w:World}{b c:Nat}{x y:Int}(hb:w.heap[b]?=some (.cells #[.int .i64 x,.int .i64 y] 3)):Calls Tryz.prog 248 #[.slice (some ⟨b,0,none⟩) 2 c] w (tl0 (orZ x y) w):=by
 obtain⟨c0,c1,cz,cl⟩:=cells2 hb;clear hb;by_cases h0:x=0
 ·have hx:(x == 0)=true:=by simp[h0]
  have hx':(x != 0)=false:=by simp[h0]
  by_cases h1:y=0
  ·have hy:(y == 0)=true:=by simp[h1]
   have hy':(y != 0)=false:=by simp[h1]
   have e:orZ x y=0:=by unfold orZ;rw[if_pos h0,h1]
   rw[e];clear h0 h1 e;go_enter Tryz.func248,Tryz.ntmps248;go_wp2_with fail
   refine wp_loop_rounds 3 ?_;rw[rounds_succ];go_wp2_with fail
   rw[rounds_succ];go_wp2_with fail
   rw[rounds_succ];go_wp2_with fail
   go_ret;exact⟨rfl,rfl⟩
  ·have hy:(y == 0)=false:=by simp[h1]
   have hy':(y != 0)=true:=by simp[h1]
   have e:orZ x y=y:=by unfold orZ;rw[if_pos h0]
   rw[e];clear h0 h1 e;go_enter Tryz.func248,Tryz.ntmps248;go_wp2_with fail
   refine wp_loop_rounds 2 ?_;rw[rounds_succ];go_wp2_with fail
   rw[rounds_succ];go_wp2_with fail
   go_ret;exact⟨rfl,rfl⟩
 ·have hx:(x == 0)=false:=by simp[h0]
  have hx':(x != 0)=true:=by simp[h0]
  have e:orZ x y=x:=by unfold orZ;rw[if_neg h0]
  rw[e];clear h0 e;go_enter Tryz.func248,Tryz.ntmps248;go_wp2_with fail
  refine wp_loop_rounds 1 ?_;rw[rounds_succ];go_wp2_with fail
  go_ret;exact⟨rfl,rfl⟩
def eV0 (x y:Bt):Bool:=decide (orZ (na0 x.rg y.rg) (na0 x.at_ y.at_)<0)
theorem tL0 (x y:Bt)(w:World):Calls Tryz.prog 198 #[btV x,btV y] w (ec0 (.bool (eV0 x y)) w):=by
 obtain⟨w1,hw1⟩:=eX ((w.alloc (.cells #[.int .u64 x.hash,.int .i64 x.rg,.int .i64 x.at_,.int .i64 x.sz] 118)).alloc (.cells #[.int .u64 y.hash,.int .i64 y.rg,.int .i64 y.at_,.int .i64 y.sz] 118))
 obtain⟨b0,b1,F1⟩:=ai0 hw1;have HB:=hid (fun W (F:Fq w1 W)=>aI (ah0 (F.heap b0 id)) (ah0 (F.heap b1 id)));have HF:=hid F1;have HW:=hid hw1;have FG:Fq w1 w1.drew:=(Fr.refl _ _).drew;clear hw1 b0 b1 F1;go_enter Tryz.func198,Tryz.ntmps198;go_upto_region 1 with fail
 rw[HW.out];refine wp_region_noPanic ?_;refine aq0 (fun V=>Fq w1 V) (.rd 0 (.rd 1 (.rd 2 (.rd 3 (.rd 4 (.rd 5 (.rd 7 (.rd 8 (.rd 9 (.rd 10 (.rd 11 (.rd 12 (.op 6 (.op 13 (.op 14 (.op 15 (.rd 16 (.rd 17 .done)))))))))))))))))) kF kF kF (fun _ _ _ _ _ h=>h) FG ?_;iterate 12
  try simp only[Act.put,sI,sZ,sS]
  refine ay0 _ ?_ gF rF ?_ ?_;rotate_left
  ·intro V hV;obtain⟨⟨t0,t1,t2,t3,tz,tl⟩,⟨u0,u1,u2,u3,uz,ul⟩⟩:=HB.out V hV;go_simp;try with_reducible rfl
 try simp only[Act.put,sI,sZ,sS]
 refine az0 _ gF rF (fun K hK=>?_);go_simp;refine (nZ0 x.rg y.rg _).mono ?_;rintro _ _ ⟨rfl,rfl⟩;try go_simp
 refine hK _ _ FG ?_;clear hK K;try simp only[Act.put,sI,sZ,sS]
 refine az0 _ gF rF (fun K hK=>?_);go_simp;refine (nZ0 x.at_ y.at_ _).mono ?_;rintro _ _ ⟨rfl,rfl⟩;try go_simp
 refine hK _ _ FG ?_;clear hK K;try simp only[Act.put,sI,sZ,sS]
 refine az0 _ gF rF (fun K hK=>?_);go_simp;have hb:=han w1.drew (.cells #[.int .i64 (na0 x.rg y.rg),.int .i64 (na0 x.at_ y.at_)] 3);have FG:=FG.alloc (.cells #[.int .i64 (na0 x.rg y.rg),.int .i64 (na0 x.at_ y.at_)] 3);refine hK _ _ FG ?_;clear hK K;try simp only[Act.put,sI,sZ,sS]
 refine az0 _ gF rF (fun K hK=>?_);go_simp;refine (AU0 hb).mono ?_;rintro _ _ ⟨rfl,rfl⟩;try go_simp
 refine hK _ _ FG ?_;clear hK K;iterate 2
  try simp only[Act.put,sI,sZ,sS]
 iterate 2
  refine ay0 _ ?_ gF rF ?_ ?_;rotate_left
  ·intro V hV;obtain⟨⟨t0,t1,t2,t3,tz,tl⟩,⟨u0,u1,u2,u3,uz,ul⟩⟩:=HB.out V hV;go_simp;try with_reducible rfl
  try simp only[Act.put,sI,sZ,sS]
 refine ar0 ?_;refine NoPanic.normal ?_;go_wp2_with fail
 go_ret;exact⟨rfl,HF.out.trans FG nI⟩

/- A pack of texts. Conditions: those that each names. -/
import Derived.Test.YtgdhaaokolfdoaaGreatDoorNBD
set_option maxHeartbeats 16000000
set_option maxRecDepth 100000
set_option linter.all false
namespace Go.Proofs.YtgdhaaokolfdoaaGreatDoor
section
open Go.RowKit Go.Sg Go.Sg.Bits Go.Sg.Clk CP SF
theorem ke0 (W:World)(b:Nat)(u0 u1 u2:Value):Fr (fun k=>k=b) W (((W.setCell ⟨b,2,none⟩ u0).setCell ⟨b,3,none⟩ u1).setCell ⟨b,4,none⟩ u2):=
 (((Fr.refl (fun k=>k=b) W).setCell (a:=⟨b,_,none⟩) (fun _=>rfl) _).setCell (a:=⟨b,_,none⟩) (fun _=>rfl) _).setCell (a:=⟨b,_,none⟩) (fun _=>rfl) _
variable {N b bd bx d f g n p:Nat}{X:Nat->Prop}{V V' w w1:World}{oldest sp:Int}{a:Bool}{v:Value}
theorem eB0 {W:World}{x0 x1 x2 x3 x4:Value}{t:TypeId}(h:W.heap[b]?=some (.cells #[x0,x1,x2,x3,x4] t))(u0 u1 u2:Value):(((W.setCell ⟨b,2,none⟩ u0).setCell ⟨b,3,none⟩ u1).setCell ⟨b,4,none⟩ u2).heap[b]?=some (.cells #[x0,x1,u0,u1,u2] t):=by
 rw[hsc _ _ _ _ (hsc _ _ _ _ (hsc _ _ _ _ h))];rfl
variable {B:Blk}
theorem FrX.new (h:FrX B X w V)(F:Fr (fun k=>k=b) V V')(hb:w.heap.size<=b):FrX B X w V':=Fr.trans h F fun k hk e=>by omega
theorem FrX.newS {S:Nat->Prop}(h:FrX B X w V)(F:Fr S V V')(hb:∀ b,S b->w.heap.size<=b):FrX B X w V':=Fr.trans h F fun k hk e=>by have:=hb k e;omega
theorem bS0 (f:Rf->List Bt->Tr)(m:Nat)(hf:∀ r es,(f r es).refs.length=m):∀ (t:Tr) (g k:Nat),(t.put g k f).refs.length+1=t.refs.length+m
 | .leaf r es,g,k=>by simp only[Tr.put,Tr.refs,hf];simp;omega
 | .node l r,g,k=>by
  simp only[Tr.put];split
  ·have:=bS0 f m hf l (g-1) k;simp only[Tr.refs,lA];omega
  ·have:=bS0 f m hf r (g-1) (k-2^(g-1));simp only[Tr.refs,lA];omega
variable {t:Tr}{E:Bt}{r:Rf}{es:List Bt}
theorem xm0 {k:Nat}(hat:t.at_ g k 0 0=(d,p,r,es))(hk:aY0 E.hash g=k):gj0 (f+1) (bare t) g sp E oldest =
  if bJ0 (aG0 es E.hash oldest) E.hash 3=true then ⟨(bare t).put g k (iz0 (bK0 (aG0 es E.hash oldest) E)),g,sp,false⟩
  else if d<3 then (if d=g then gj0 f ((bare t).put (g+1) (2*k) (dW0 d (aG0 es E.hash oldest))) (g+1) (sp+1) E oldest else gj0 f ((bare t).put g k (dW0 d (aG0 es E.hash oldest))) g (sp+1) E oldest)
  else ⟨(bare t).put g k (iz0 (bK0 ((aG0 es E.hash oldest).eraseIdx (dm0 (aG0 es E.hash oldest) (aG0 es E.hash oldest).length).toNat) E)),g,sp,true⟩:=by
 subst hk;simp only[gj0,gS0,hat]
def Bl0 (B:Blk)(bx bd:Nat)(y:Cs)(P:aC0)(a:Bool)(N:Nat)(rl:Nat)(R:ea0)(w:World)(e:Ending)(w':World):Prop:=
 ∃ (lost:Bool) (err:Int),e = .returned (.tuple #[.bool lost,.int .i64 err])/\FrX B (fun b=>b=bd\/b=bx) w w' /\
  ((err=0/\lost=R.lost/\∃ (y':Cs) (x':aL0) (t':Tr) (N':Nat),fk0 w' B bx bd y' P a N' x' t' R.sp/\N'+150*rl<=N+30+150*t'.refs.length/\bare t'=R.t/\x'.depth=R.g/\(Like y y'/\y'.gen=y.gen/\y'.dead=y.dead))\/(err=4/\a=true/\aP0 w' B y P (N+1300)))
structure xH0 (w1:World)(B:Blk)(bx bd:Nat)(y0:Cs)(P:aC0)(a:Bool)(N rl:Nat)(E:Bt)(oldest:Int)(R:ea0)(f:Nat)(V:World):Prop where
 ex:∃ (y:Cs) (x:aL0) (au0:List Rf) (t:Tr) (L:List Bp) (sp:Int) (N1:Nat),aD0 V B bx bd y P a N1 x au0 (t.slots x.depth) L sp/\(L.Perm (lds t 0 0)/\t.high=x.depth/\okT t 0 0/\Like y0 y)/\(y.gen=y0.gen/\y.dead=y0.dead)/\gj0 f (bare t) x.depth sp E oldest=R/\(8-t.refs.length<f/\N1+150*rl<=N+150*t.refs.length/\1<=rl)/\(0<=sp/\sp+f<=100000)/\FrX B (fun b=>b=bd\/b=bx) w1 V
variable {y y0:Cs}{P:aC0}
theorem xH0.fr0 {rl:Nat}{R:ea0}(h:xH0 w1 B bx bd y0 P a N rl E oldest R f V)(F:Fq V V'):xH0 w1 B bx bd y0 P a N rl E oldest R f V':=by
 obtain⟨y,x,au0,t,L,sp,N1,hM,h2,h3,h4,h5,h6,h7⟩:=h.ex;exact⟨y,x,au0,t,L,sp,N1,hM.fr0 F,h2,h3,h4,h5,h6,FrX.trans h7 (FrX.none F)⟩
theorem kj0:∀ t:Tr,1<=t.refs.length
 | .leaf _ _=>by simp[Tr.refs]
 | .node l r=>by have:=kj0 l;simp only[Tr.refs,lA];omega
theorem tM0 (h:es≠[]):∃ i:Nat,dm0 es es.length=(i:Int)/\i<es.length:=by
 obtain⟨n,hn⟩:∃ n,es.length=n+1:=⟨es.length-1,by have:=List.length_pos_iff.2 h;omega⟩
 rw[hn];exact⟨tr0 es n,rfl,by have:=jM0 es n;omega⟩
variable {x:aL0}{slots au0:List Rf}{L:List Bp}
theorem aD0.turn {base:Nat}(h:aD0 V B bx bd y P a N x au0 slots L sp)(hE:bm0 V base v es)(F:Fr (fun b=>v.ownBlock=some b) V V')(hb:0<base):aD0 V' B bx bd y P a N x au0 slots L sp:=by
 obtain⟨_,⟨h0,_⟩|⟨g,cap,cur,hv,hbg,hg,_⟩⟩:=hE
 ·exact h.fr0 (F.mono fun b _ e=>by rw[h0] at e;cases e)
 ·exact h.an0 (F.mono fun b _ e=>by rw[hv] at e;exact (Option.some.inj e).symm) hg dC oM
def PS (w1:World)(B:Blk)(bx bd:Nat)(y:Cs)(P:aC0)(a:Bool)(N:Nat)(x:aL0)(au0 slots:List Rf)(L:List Bp)(sp:Int)(b8:Nat)(r:Rf)(d p:Nat)(va:Option Addr)(n vc:Nat)(es:List Bt)(V:World):Prop:=
 aD0 V B bx bd y P a N x au0 slots L sp/\V.heap[b8]?=some (.cells #[.int .i64 r.1,.int .i64 r.2,.int .i64 d,.int .i64 p,.slice va n vc] 131)/\bm0 V 0 (.slice va es.length vc) es/\FrX B (fun b=>b=bd\/b=bx) w1 V/\es.length=n
theorem zv0 {b' e size:Nat}{xs:List Value}(h:w.ownsRow b e size v n xs)(hb:∀ g,v.ownBlock=some g->b'<=g):w.ownsRow b' e size v n xs:=by
 obtain⟨hl,h0|⟨g,cap,cur,hv,hbg,r⟩⟩:=h
 ·exact⟨hl,.inl h0⟩
 ·exact⟨hl,.inr ⟨g,cap,cur,hv,hb g (by rw[hv];rfl),r⟩⟩
theorem PS.fr0 {b8:Nat}{va:Option Addr}{vc:Nat}(h:PS w1 B bx bd y P a N x au0 slots L sp b8 r d p va n vc es V)(F:Fq V V'):PS w1 B bx bd y P a N x au0 slots L sp b8 r d p va n vc es V':=
 ⟨h.1.fr0 F,F.heap h.2.1 id,oN h.2.2.1 F,FrX.trans h.2.2.2.1 (FrX.none F),h.2.2.2.2⟩
theorem oV0 (hh:E.hash<18446744073709551616)(w:World):Calls Tryz.prog 129 #[btV E] w (ec0 (.bool (aM0 E)) w):=by
 refine ty0 E (aM0 E) w (fun W g hg _ _=>?_);have ho:bm0 W 0 (.slice (some ⟨g,0,none⟩) 1 1) [E]:=eM0 (es:=[E]) (c:=1) (la9 _) hg (nR _) dC rfl rfl;have:=gP0 ho (List.pairwise_singleton _ _) 0 0 1 dC dC dC dC (nR _) (fun x hx=>by simp at hx;subst hx;exact hh);have e:(!([E].any (dA0 0 0)))=aM0 E:=by simp[dA0,eG0]
 rw[e] at this;exact this
theorem pM0 (h:gA0 E):aM0 E=true:=by
 obtain⟨_,h1,h2,h3⟩:=h;simp[aM0];omega
theorem rC0 {h:Nat}(hh:h<18446744073709551616):∀ (n d:Nat),d+n<=20->aY0 h (d+n)/2^n=aY0 h d
 | 0,d,_=>by simp
 | n+1,d,hd=>by
  rw[lK9,lJ9,<- lX9,show d+(n+1)=(d+n)+1 by omega,eH0 oM hh];exact rC0 hh n d oM
theorem wk0 {h:Nat}(hb:kW0 t g L (aY0 h g) d p r es)(hh:h<18446744073709551616)(hg:g<=20)(hi:t.high<=g):aY0 h d=p:=by
 have h4:=Tr.kQ0 t g (aY0 h g) 0 0 hi hb.kl;rw[hb.at_] at h4;simp only[mr9,lp9] at h4;have h5:=rC0 hh (g-d) d (by have:=hb.dg;omega);rw[show d+(g-d)=g by have:=hb.dg;omega] at h5;rw[<- h5,h4]
theorem tw0 {P:aQ0}{x0:aL0}{t0:Tr}{sp0:Int}(h:fk0 w B bx bd y0 P a N x0 t0 sp0)(E:Bt)(oldest:Int)(hE:gA0 E)(hsp0:0<=sp0/\sp0+8<=100000)(hN:N+1300<=90000) :
  Calls Tryz.prog 64 #[cG0 bx,btV E,.int .i64 oldest] w (Bl0 B bx bd y0 P a N t0.refs.length (gj0 8 (bare t0) x0.depth sp0 E oldest) w):=by
 obtain⟨tops0,L0,hM0,hP0⟩:=h.ex;have hblt:=hM0.gR0;have hrl:1<=t0.refs.length:=kj0 t0;have hrl8:t0.refs.length<=8:=by
  have h1:=ei0 t0;have h2:=h.depth;rw[h.high] at h1;exact nT h1 (lc9 dC h2:2^x0.depth<=2^3)
 obtain⟨w1,hw1⟩:=eX (w.alloc (.cells #[.int .u64 E.hash,.int .i64 E.rg,.int .i64 E.at_,.int .i64 E.sz] 118))
 have b4:w1.heap[w.heap.size]?=some (.cells #[.int .u64 E.hash,.int .i64 E.rg,.int .i64 E.at_,.int .i64 E.sz] 118):=by rw[<- hw1];exact han _ _
 have F1:Fq w w1:=by rw[<- hw1];exact (Fr.refl _ _).alloc _
 have HB4:=hid (fun (V:World) (F:FrX B (fun b=>b=bd\/b=bx) w1 V)=>ah0 (cW0 F b4 dC (fun e=>oM)));have HEn:=hid (show Calls Tryz.prog 129 #[btV E] w1 (ec0 (.bool true) w1) by have:=oV0 hE.1 w1;rw[pM0 hE] at this;exact this);obtain⟨R,hR⟩:=eX (gj0 8 (bare t0) x0.depth sp0 E oldest)
 rw[hR];have HI0:=hid (show xH0 w1 B bx bd y0 P a N t0.refs.length E oldest R 8 w1 from⟨y0,x0,tops0,t0,L0,sp0,N,hM0.fr0 F1,⟨hP0,h.high,h.ok,Like.refl y0⟩,⟨rfl,rfl⟩,hR,⟨oM,nR _,hrl⟩,⟨hsp0.1,oM⟩,FrX.refl _ _ _⟩);have HE:=hid hE;have HF1:=hid F1;have hs1:w1.heap.size=w.heap.size+1:=by rw[<- hw1];simp
 have HS1:=hid hs1;obtain⟨rl,hrle⟩:=eX t0.refs.length
 rw[hrle] at HI0 hrl8 ⊢;have HW:=hid hw1;have HBl:=hid hblt;obtain⟨t0',t1',t2',t3',tz',tl'⟩:=HB4.out w1 (FrX.refl _ _ _);clear h hM0 hP0 hR hE hw1 b4 F1 hs1 hrle hsp0 hblt hrl;go_enter Tryz.func64,Tryz.ntmps64;go_upto_region 1 with fail
 rw[HW.out];go_step3
 go_wp2_with fail
 refine HEn.out.mono ?_;rintro e V0 ⟨rfl,F0⟩;have HI1:=hid (show xH0 w1 B bx bd y0 P a N rl E oldest R 8 V0 from HI0.out.fr0 F0);clear F0 t0' t1' t2' t3' tz' tl' HEn HI0;go_wp2_with fail
 go_step3
 go_wp2_with fail
 go_loopg [6] 8 (fun k v6 wr=>v6 = .bool false/\xH0 w1 B bx bd y0 P a N rl E oldest R k wr)
 case atStart=>exact⟨rfl,HI1.out⟩
 case round =>
  obtain⟨rfl,hI⟩:=hrel;obtain⟨y,x,au0,t,L,sp,N1,hM,⟨hPm,hh,hok,hlk⟩,hyg,hps,⟨hrf,hNr,hrl1⟩,⟨hsp0,hspf⟩,hF⟩:=hI.ex;have hdep:=hM.small.2.2;have hkl:aY0 E.hash x.depth<2^x.depth:=ii0 oM HE.out.1;have hr8:t.refs.length<=8:=by
   have h1:=ei0 t;rw[hh] at h1;exact nT h1 (lc9 dC hdep:2^x.depth<=2^3)
  obtain⟨d,p,r,es,hb⟩:=nf0 hkl (ll9 hh) hok hPm;have hdg:=hb.dg;have hp2:=hb.pl;have hN1:N1+240<=90000:=oM
  obtain⟨j,hj⟩:=lC9.1 hb.mem;have hpp:aY0 E.hash d=p:=wk0 hb HE.out.1 oM (ll9 hh);have HOf:=hid (tx0 hM HE.out.1 hb.slot hb.mem hb.ok oM hp2 oM);obtain⟨t0',t1',t2',t3',tz',tl'⟩:=HB4.out wr hF;have HT:=hi2 hok (aI hh (aI hPm hlk));have HG:=hid hyg;have HPS:=hid hps;have HNr:=hi2 hrf (aI hNr (aI hrl1 (aI hsp0 (aI hspf (aI hr8 hN1)))));have HBk:=hi2 hb (aI hb.ok hpp);have HJ:=hid hj;have HD:=hi2 hdep (aI hdg hp2);have HF:=hid hF;clear hok hh hPm hlk hyg hps hrf hNr hrl1 hsp0 hspf hr8 hN1 hb hpp hj hdep hdg hp2 hF hM hkl hI;go_wp2_with fail
  refine HOf.out.mono ?_;rintro e V1 ⟨r1,d1,p1,va,n,vc,err,rfl,F1,hr⟩;have HR1:=hi2 F1 hr;clear F1 hr HOf t0' t1' t2' t3' tz' tl';obtain⟨b8,hb8⟩:=eX V1.heap.size
  have H8:=hid (show 0<b8/\w1.heap.size<=b8 by
   have h1:=HF.out.size;have h2:=HR1.out.1.size;have h3:=HS1.out;omega)
  obtain⟨f,rfl⟩:∃ f,gk=f+1:=⟨gk-1,by have:=HNr.out.1;omega⟩
  have HPe:=hid (xm0 (f:=f) (sp:=sp) (E:=E) (oldest:=oldest) HBk.out.1.at_ rfl);go_upto_region 6 with fail
  obtain⟨V2,hV2⟩:=eX (V1.alloc (.cells #[.int .i64 r1.1,.int .i64 r1.2,.int .i64 d1,.int .i64 p1,.slice va n vc] 131))
  rw[hV2];have FV:Fq V1 V2:=by rw[<- hV2];exact (Fr.refl _ _).alloc _
  have g8:V2.heap[b8]?=some (.cells #[.int .i64 r1.1,.int .i64 r1.2,.int .i64 d1,.int .i64 p1,.slice va n vc] 131):=by rw[<- hV2,<- hb8];exact han _ _
  have HFV:=hid FV;have HG8:=hid g8;clear hb8 hV2 FV g8;rcases HR1.out.2 with⟨rfl,⟨rfl,rfl,rfl,hn⟩,ho,hM⟩|⟨rfl,ha,hDn⟩
  rotate_left
  ·have HX:=hi2 ha (hDn.fr0 HFV.out);clear ha hDn;go_wp2_with fail
   go_ret2;exact⟨false,4,rfl,FrX.trans (FrX.none HF1.out) (FrX.trans HF.out (FrX.trans (FrX.of HR1.out.1) (FrX.none HFV.out))),.inr ⟨rfl,HX.out.1,aX0 (HX.out.2.mono (by have:=HNr.out;omega)) HT.out.2.2.2⟩⟩
  have HSV2:=hid (show PS w1 B bx bd y P a (N1+3) x au0 (t.slots x.depth) L sp b8 r1 d p va n vc es V2 from⟨hM.fr0 HFV.out,HG8.out,oN (own_base ho) HFV.out,FrX.trans HF.out (FrX.trans (FrX.of HR1.out.1) (FrX.none HFV.out)),hn.symm⟩);clear ho hM hn HG8;cases hro:bJ0 es E.hash 3 with
  | true =>
   have HRo:=hid hro;have HRes:=hid (show (⟨(bare t).put x.depth (aY0 E.hash x.depth) (iz0 (bK0 es E)),x.depth,sp,false⟩:ea0)=R by
    rw[<- HPS.out,HPe.out];unfold aG0;rw[if_pos HRo.out,if_pos HRo.out])
   clear hro;obtain⟨q0,q1,q2,q3,q4,qz,ql⟩:=cells5 HSV2.out.2.1;obtain⟨t0',t1',t2',t3',tz',tl'⟩:=HB4.out V2 HSV2.out.2.2.2.1;have HRm:=hid (fl0 HSV2.out.1.idx HSV2.out.2.2.1 HBk.out.2.1.2.1 (by have:=HBk.out.2.1.1;omega) d p E.hash);rw[HSV2.out.2.2.2.2,HRo.out] at HRm;go_wp2_with fail
   refine HRm.out.mono ?_;rintro e V3 ⟨rfl,FR⟩;have HSV3:=hid (show PS w1 B bx bd y P a (N1+3) x au0 (t.slots x.depth) L sp b8 r1 d p va n vc es V3 from⟨HSV2.out.1.fr0 FR,FR.heap HSV2.out.2.1 id,oN HSV2.out.2.2.1 FR,FrX.trans HSV2.out.2.2.2.1 (FrX.none FR),HSV2.out.2.2.2.2⟩);clear FR q0 q1 q2 q3 q4 qz ql t0' t1' t2' t3' tz' tl' HRm;obtain⟨q0,q1,q2,q3,q4,qz,ql⟩:=cells5 HSV3.out.2.1;obtain⟨t0',t1',t2',t3',tz',tl'⟩:=HB4.out V3 HSV3.out.2.2.2.1;have HRm:=hid (fl0 HSV3.out.1.idx HSV3.out.2.2.1 HBk.out.2.1.2.1 (by have:=HBk.out.2.1.1;omega) d p E.hash);rw[HSV3.out.2.2.2.2,HRo.out] at HRm;go_wp2_with fail
   refine HRm.out.mono ?_;rintro e V4 ⟨rfl,FR⟩;have HSV4:=hid (show PS w1 B bx bd y P a (N1+3) x au0 (t.slots x.depth) L sp b8 r1 d p va n vc es V4 from⟨HSV3.out.1.fr0 FR,FR.heap HSV3.out.2.1 id,oN HSV3.out.2.2.1 FR,FrX.trans HSV3.out.2.2.2.1 (FrX.none FR),HSV3.out.2.2.2.2⟩);clear FR q0 q1 q2 q3 q4 qz ql t0' t1' t2' t3' tz' tl' HRm;obtain⟨q0,q1,q2,q3,q4,qz,ql⟩:=cells5 HSV4.out.2.1;obtain⟨t0',t1',t2',t3',tz',tl'⟩:=HB4.out V4 HSV4.out.2.2.2.1;have HPt:=hid (mt0 HSV4.out.2.2.1 HBk.out.2.1.2.1 (by have:=HBk.out.2.1.1;omega) d p E);rw[HSV4.out.2.2.2.2] at HPt;go_wp2_with fail
   refine HPt.out.mono ?_;rintro e VP ⟨ap,cp,rfl,hop,FP⟩;have hIP:=HSV4.out.1.fr0 FP;have g8P:=FP.heap HSV4.out.2.1 id;have FXP:=FrX.trans HSV4.out.2.2.2.1 (FrX.none FP);have hkP:=qZ0 HBk.out.2.1 HRo.out HE.out HBk.out.2.2;obtain⟨np,hnp⟩:=eX ((bK0 es E).length)
   have HNP:=hid hnp;rw[hnp];clear q0 q1 q2 q3 q4 qz ql t0' t1' t2' t3' tz' tl' HPt hnp;have HOP:=hi2 hIP (aI hop (aI FXP hkP));have HGP:=hid g8P;obtain⟨q0,q1,q2,q3,q4,qz,ql⟩:=cells5 g8P;clear hIP hop FXP hkP g8P FP;go_upto_region 19 with fail
   obtain⟨VQ,hVQ⟩:=eX (((VP.setCell ⟨b8,2,none⟩ (.int .i64 d)).setCell ⟨b8,3,none⟩ (.int .i64 p)).setCell ⟨b8,4,none⟩ (.slice ap np cp))
   rw[hVQ];have FQ:Fr (fun k=>k=b8) VP VQ:=by rw[<- hVQ];exact ke0 VP b8 _ _ _
   have g8Q:VQ.heap[b8]?=some (.cells #[.int .i64 r1.1,.int .i64 r1.2,.int .i64 d,.int .i64 p,.slice ap np cp] 131):=by rw[<- hVQ];exact eB0 HGP.out _ _ _
   have hIQ:=HOP.out.1.an0 FQ HGP.out dC H8.out.1;have hoQ:bm0 VQ 0 (.slice ap (bK0 es E).length cp) _:=aS0 (own_base HOP.out.2.1) FQ (fun g hg e=>by
    obtain⟨_,c,hc⟩:=oBT HOP.out.2.1 (show some g=_ from hg.symm);rw[e,HGP.out] at hc;cases hc)
   have FXQ:=FrX.new HOP.out.2.2.1 FQ H8.out.2;have HKe:=hid (dF0 hIQ (j:=j) HJ.out hoQ HOP.out.2.2.2 HD.out.2.1 HD.out.2.2 (gQ0 HBk.out.1 (ll9 HT.out.2.1)) (by have:=HNr.out.2.2.2.2.2.2;omega));rw[HNP.out] at HKe;have HQ:=hid FXQ;clear q0 q1 q2 q3 q4 qz ql hVQ FQ hIQ hoQ FXQ;obtain⟨q0,q1,q2,q3,q4,qz,ql⟩:=cells5 g8Q;go_wp2_with fail
   refine HKe.out.mono ?_;rintro e VR ⟨err,rfl,FR,hr⟩;have HR:=hi2 FR hr;clear FR hr q0 q1 q2 q3 q4 qz ql g8Q HKe;go_wp2_with fail
   go_ret2;refine⟨false,err,rfl,FrX.trans (FrX.none HF1.out) (FrX.trans HQ.out (bC0 HR.out.1 (fun b hb=>.inl hb))),?_⟩;rcases HR.out.2 with⟨rfl,m,y',x',t',hI',hx',hL'⟩|⟨rfl,ha,hDn⟩
   ·refine .inl ⟨rfl,by rw[<- HRes.out],y',x',t.put x.depth (aY0 E.hash x.depth) (fun _ _=>.leaf (↑m,↑y.gen) (bK0 es E)),N1+3+20,?_,?_,?_,?_,HT.out.2.2.2.trans hL'.1,hL'.2.1.trans HG.out.1,hL'.2.2.trans HG.out.2⟩
    ·rw[<- HRes.out];exact eP0 HBk.out.1 HT.out.2.1 HT.out.1 HT.out.2.2.1 HJ.out HOP.out.2.2.2 hx' hI'
    ·have h1:(t.put x.depth (aY0 E.hash x.depth) (fun _ _=>.leaf (↑m,↑y.gen) (bK0 es E))).refs.length=t.refs.length:=mB9 (bS0 (fun _ _=>.leaf (↑m,↑y.gen) (bK0 es E)) 1 (fun _ _=>rfl) t x.depth (aY0 E.hash x.depth));have h2:=HNr.out.2.1;omega
    ·rw[<- HRes.out];exact cA0 _ _ (fun _ _=>rfl) t x.depth _
    ·rw[<- HRes.out];exact hx'
   ·exact .inr ⟨rfl,ha,aX0 (hDn.mono (by have:=HNr.out;omega)) HT.out.2.2.2⟩
  | false =>
   have HRo:=hid hro;have HFe:=hid (show aG0 es E.hash oldest=es.filter (ak0 oldest) by unfold aG0;rw[HRo.out];rfl);have HK1:=hid (cQ0 HBk.out.2.1 (ak0 oldest));clear hro;obtain⟨q0,q1,q2,q3,q4,qz,ql⟩:=cells5 HSV2.out.2.1;obtain⟨t0',t1',t2',t3',tz',tl'⟩:=HB4.out V2 HSV2.out.2.2.2.1;have HRm:=hid (fl0 HSV2.out.1.idx HSV2.out.2.2.1 HBk.out.2.1.2.1 (by have:=HBk.out.2.1.1;omega) d p E.hash);rw[HSV2.out.2.2.2.2,HRo.out] at HRm;go_wp2_with fail
   refine HRm.out.mono ?_;rintro e V3 ⟨rfl,FR⟩;have HSV3:=hid (show PS w1 B bx bd y P a (N1+3) x au0 (t.slots x.depth) L sp b8 r1 d p va n vc es V3 from⟨HSV2.out.1.fr0 FR,FR.heap HSV2.out.2.1 id,oN HSV2.out.2.2.1 FR,FrX.trans HSV2.out.2.2.2.1 (FrX.none FR),HSV2.out.2.2.2.2⟩);clear FR q0 q1 q2 q3 q4 qz ql t0' t1' t2' t3' tz' tl' HRm;obtain⟨q0,q1,q2,q3,q4,qz,ql⟩:=cells5 HSV3.out.2.1;obtain⟨t0',t1',t2',t3',tz',tl'⟩:=HB4.out V3 HSV3.out.2.2.2.1;have HFs:=hid (kO0 HSV3.out.2.2.1 (by have:=HBk.out.2.1.1;omega) d p oldest);rw[HSV3.out.2.2.2.2] at HFs;go_wp2_with fail
   refine HFs.out.mono ?_;rintro e VF ⟨va1,vc1,rfl,hop,FP⟩;have hIP:=HSV3.out.1.fr0 FP;have g8P:=FP.heap HSV3.out.2.1 id;have FXP:=FrX.trans HSV3.out.2.2.2.1 (FrX.none FP);have HOB:=hid (show ∀ g,some g=(Value.slice va1 (es.filter (ak0 oldest)).length vc1).ownBlock->w1.heap.size<=g from fun g hg=>nT HSV3.out.2.2.2.1.size (oBT hop hg).1);obtain⟨n1,hn1⟩:=eX ((es.filter (ak0 oldest)).length)
   have HNP:=hid hn1;rw[hn1];clear q0 q1 q2 q3 q4 qz ql t0' t1' t2' t3' tz' tl' HFs hn1;have HOP:=hi2 hIP (aI hop FXP);have HGP:=hid g8P;obtain⟨q0,q1,q2,q3,q4,qz,ql⟩:=cells5 g8P;clear hIP hop FXP g8P FP;go_upto_region 13 with fail
   obtain⟨VS,hVQ⟩:=eX (((VF.setCell ⟨b8,2,none⟩ (.int .i64 d)).setCell ⟨b8,3,none⟩ (.int .i64 p)).setCell ⟨b8,4,none⟩ (.slice va1 n1 vc1))
   rw[hVQ];have FQ:Fr (fun k=>k=b8) VF VS:=by rw[<- hVQ];exact ke0 VF b8 _ _ _
   have g8Q:VS.heap[b8]?=some (.cells #[.int .i64 r1.1,.int .i64 r1.2,.int .i64 d,.int .i64 p,.slice va1 n1 vc1] 131):=by rw[<- hVQ];exact eB0 HGP.out _ _ _
   have hoQ:bm0 VS 0 (.slice va1 (es.filter (ak0 oldest)).length vc1) _:=aS0 (own_base HOP.out.2.1) FQ (fun g hg e=>by
    obtain⟨_,c,hc⟩:=oBT HOP.out.2.1 (show some g=_ from hg.symm);rw[e,HGP.out] at hc;cases hc)
   have HSVS:=hid (show PS w1 B bx bd y P a (N1+3) x au0 (t.slots x.depth) L sp b8 r1 d p va1 n1 vc1 (es.filter (ak0 oldest)) VS from⟨HOP.out.1.an0 FQ HGP.out dC H8.out.1,g8Q,hoQ,FrX.new HOP.out.2.2 FQ H8.out.2,HNP.out⟩);clear q0 q1 q2 q3 q4 qz ql hVQ FQ g8Q hoQ HOP HGP HSV2 HSV3;cases hro:bJ0 (es.filter (ak0 oldest)) E.hash 3 with
   | true =>
    have HRo1:=hid hro;have HRes:=hid (show (⟨(bare t).put x.depth (aY0 E.hash x.depth) (iz0 (bK0 (es.filter (ak0 oldest)) E)),x.depth,sp,false⟩:ea0)=R by
     rw[<- HPS.out,HPe.out,HFe.out,if_pos HRo1.out])
    clear hro;obtain⟨q0,q1,q2,q3,q4,qz,ql⟩:=cells5 HSVS.out.2.1;obtain⟨t0',t1',t2',t3',tz',tl'⟩:=HB4.out VS HSVS.out.2.2.2.1;have HRm:=hid (fl0 HSVS.out.1.idx HSVS.out.2.2.1 HK1.out.2.1 (by have:=HK1.out.1;omega) d p E.hash);rw[HSVS.out.2.2.2.2,HRo1.out] at HRm;go_wp2_with fail
    refine HRm.out.mono ?_;rintro e V4 ⟨rfl,FR⟩;have HSV4:=hid (show PS w1 B bx bd y P a (N1+3) x au0 (t.slots x.depth) L sp b8 r1 d p va1 n1 vc1 (es.filter (ak0 oldest)) V4 from⟨HSVS.out.1.fr0 FR,FR.heap HSVS.out.2.1 id,oN HSVS.out.2.2.1 FR,FrX.trans HSVS.out.2.2.2.1 (FrX.none FR),HSVS.out.2.2.2.2⟩);clear FR q0 q1 q2 q3 q4 qz ql t0' t1' t2' t3' tz' tl' HRm;obtain⟨q0,q1,q2,q3,q4,qz,ql⟩:=cells5 HSV4.out.2.1;obtain⟨t0',t1',t2',t3',tz',tl'⟩:=HB4.out V4 HSV4.out.2.2.2.1;have HPt:=hid (mt0 HSV4.out.2.2.1 HK1.out.2.1 (by have:=HK1.out.1;omega) d p E);rw[HSV4.out.2.2.2.2] at HPt;go_wp2_with fail
    refine HPt.out.mono ?_;rintro e VP ⟨ap,cp,rfl,hop,FP⟩;have hIP:=HSV4.out.1.fr0 FP;have g8P:=FP.heap HSV4.out.2.1 id;have FXP:=FrX.trans HSV4.out.2.2.2.1 (FrX.none FP);have hkP:=qZ0 HK1.out HRo1.out HE.out HBk.out.2.2;obtain⟨np,hnp⟩:=eX ((bK0 (es.filter (ak0 oldest)) E).length)
    have HNP:=hid hnp;rw[hnp];clear q0 q1 q2 q3 q4 qz ql t0' t1' t2' t3' tz' tl' HPt hnp;have HOP:=hi2 hIP (aI hop (aI FXP hkP));have HGP:=hid g8P;obtain⟨q0,q1,q2,q3,q4,qz,ql⟩:=cells5 g8P;clear hIP hop FXP hkP g8P FP;go_upto_region 19 with fail
    obtain⟨VQ,hVQ⟩:=eX (((VP.setCell ⟨b8,2,none⟩ (.int .i64 d)).setCell ⟨b8,3,none⟩ (.int .i64 p)).setCell ⟨b8,4,none⟩ (.slice ap np cp))
    rw[hVQ];have FQ:Fr (fun k=>k=b8) VP VQ:=(by rw[<- hVQ];exact ke0 VP b8 _ _ _);have g8Q:VQ.heap[b8]?=some (.cells #[.int .i64 r1.1,.int .i64 r1.2,.int .i64 d,.int .i64 p,.slice ap np cp] 131):=(by rw[<- hVQ];exact eB0 HGP.out _ _ _);have hIQ:=HOP.out.1.an0 FQ HGP.out dC H8.out.1;have hoQ:bm0 VQ 0 (.slice ap (bK0 (es.filter (ak0 oldest)) E).length cp) _:=aS0 (own_base HOP.out.2.1) FQ (fun g hg e=>by
     obtain⟨_,c,hc⟩:=oBT HOP.out.2.1 (show some g=_ from hg.symm);rw[e,HGP.out] at hc;cases hc)
    have FXQ:=FrX.new HOP.out.2.2.1 FQ H8.out.2;have HKe:=hid (dF0 hIQ (j:=j) HJ.out hoQ HOP.out.2.2.2 HD.out.2.1 HD.out.2.2 (gQ0 HBk.out.1 (ll9 HT.out.2.1)) (by have:=HNr.out.2.2.2.2.2.2;omega));rw[HNP.out] at HKe;have HQ:=hid FXQ;clear q0 q1 q2 q3 q4 qz ql hVQ FQ hIQ hoQ FXQ;obtain⟨q0,q1,q2,q3,q4,qz,ql⟩:=cells5 g8Q;go_wp2_with fail
    refine HKe.out.mono ?_;rintro e VR ⟨err,rfl,FR,hr⟩;have HR:=hi2 FR hr;clear FR hr q0 q1 q2 q3 q4 qz ql g8Q HKe;go_wp2_with fail
    go_ret2;refine⟨false,err,rfl,FrX.trans (FrX.none HF1.out) (FrX.trans HQ.out (bC0 HR.out.1 (fun b hb=>.inl hb))),?_⟩;rcases HR.out.2 with⟨rfl,m,y',x',t',hI',hx',hL'⟩|⟨rfl,ha,hDn⟩
    ·refine .inl ⟨rfl,by rw[<- HRes.out],y',x',t.put x.depth (aY0 E.hash x.depth) (fun _ _=>.leaf (↑m,↑y.gen) (bK0 (es.filter (ak0 oldest)) E)),N1+3+20,?_,?_,?_,?_,HT.out.2.2.2.trans hL'.1,hL'.2.1.trans HG.out.1,hL'.2.2.trans HG.out.2⟩
     ·rw[<- HRes.out];exact eP0 HBk.out.1 HT.out.2.1 HT.out.1 HT.out.2.2.1 HJ.out HOP.out.2.2.2 hx' hI'
     ·have h1:(t.put x.depth (aY0 E.hash x.depth) (fun _ _=>.leaf (↑m,↑y.gen) (bK0 (es.filter (ak0 oldest)) E))).refs.length=t.refs.length:=mB9 (bS0 (fun _ _=>.leaf (↑m,↑y.gen) (bK0 (es.filter (ak0 oldest)) E)) 1 (fun _ _=>rfl) t x.depth (aY0 E.hash x.depth));have h2:=HNr.out.2.1;omega
     ·rw[<- HRes.out];exact cA0 _ _ (fun _ _=>rfl) t x.depth _
     ·rw[<- HRes.out];exact hx'
    ·exact .inr ⟨rfl,ha,aX0 (hDn.mono (by have:=HNr.out;omega)) HT.out.2.2.2⟩
   | false =>
    have HRo1:=hid hro;clear hro;obtain⟨q0,q1,q2,q3,q4,qz,ql⟩:=cells5 HSVS.out.2.1;obtain⟨t0',t1',t2',t3',tz',tl'⟩:=HB4.out VS HSVS.out.2.2.2.1;have HRm:=hid (fl0 HSVS.out.1.idx HSVS.out.2.2.1 HK1.out.2.1 (by have:=HK1.out.1;omega) d p E.hash);rw[HSVS.out.2.2.2.2,HRo1.out] at HRm;go_wp2_with fail
    refine HRm.out.mono ?_;rintro e V4 ⟨rfl,FR⟩;have HSV4:=hid (show PS w1 B bx bd y P a (N1+3) x au0 (t.slots x.depth) L sp b8 r1 d p va1 n1 vc1 (es.filter (ak0 oldest)) V4 from⟨HSVS.out.1.fr0 FR,FR.heap HSVS.out.2.1 id,oN HSVS.out.2.2.1 FR,FrX.trans HSVS.out.2.2.2.1 (FrX.none FR),HSVS.out.2.2.2.2⟩);clear FR q0 q1 q2 q3 q4 qz ql t0' t1' t2' t3' tz' tl' HRm;obtain⟨q0,q1,q2,q3,q4,qz,ql⟩:=cells5 HSV4.out.2.1;obtain⟨t0',t1',t2',t3',tz',tl'⟩:=HB4.out V4 HSV4.out.2.2.2.1;obtain⟨i0,i1,i2,i3,i4,iz,il⟩:=cells5 HSV4.out.1.idx;by_cases hd3:d<3
    ·have hd3i:(d:Int)<3:=oM;go_wp2_with fail
     go_quiet (fail)
     have HSV5:=hid (HSV4.out.fr0 ((Fr.refl _ _).drewN nq));clear q0 q1 q2 q3 q4 qz ql t0' t1' t2' t3' tz' tl' i0 i1 i2 i3 i4 iz il;obtain⟨V5,hV5⟩:=eX (V4.drewN nq)
     rw[hV5] at HSV5 ⊢;clear hV5;obtain⟨q0,q1,q2,q3,q4,qz,ql⟩:=cells5 HSV5.out.2.1;have hLl:L.length=t.refs.length:=(by rw[HT.out.2.2.1.length_eq,hQ0]);have hk12:=eY0 HK1.out oM;have hgs:∃ g sl',(d=x.depth/\g=x.depth+1/\sl'=gv0 (t.slots x.depth)\/d≠x.depth/\g=x.depth/\sl'=t.slots x.depth)/\(∃ k,kW0 t g L k d p r1 es/\sl'=t.slots g/\gj0 f ((bare t).put g k (dW0 d (es.filter (ak0 oldest)))) g (sp+1) E oldest=R)/\max t.high (d+1)=g:=by
      have hq:=HPe.out;rw[HPS.out,HFe.out,if_neg (by rw[HRo1.out];decide),if_pos hd3] at hq;by_cases hdx:d=x.depth
      ·rw[if_pos hdx] at hq;exact⟨x.depth+1,_,.inl ⟨hdx,rfl,rfl⟩,⟨_,wl0 HBk.out.1 (ll9 HT.out.2.1) HT.out.1 HT.out.2.2.1,pG0 t x.depth (ll9 HT.out.2.1),hq.symm⟩,by rw[HT.out.2.1];omega⟩
      ·rw[if_neg hdx] at hq;exact⟨x.depth,_,.inr ⟨hdx,rfl,rfl⟩,⟨_,HBk.out.1,rfl,hq.symm⟩,by rw[HT.out.2.1];have:=HD.out.2.1;omega⟩
     obtain⟨g,sl',hg,⟨kk,hbg,hslg,hpg⟩,hmx⟩:=hgs;have hsl:∀ i ∈ slN (p*2^(g-d)) (2^(g-d)),sl'[i]?=some r1:=by
      rw[hslg];exact gQ0 hbg oM
     have HSp:=hid (tv0 HSV5.out.1 HJ.out HSV5.out.2.2.1 HK1.out HD.out.2.1 hd3 HD.out.2.2 (by have:=HNr.out;omega) (by have:=HNr.out;omega) hg hsl (by have:=HNr.out;omega));rw[HSV5.out.2.2.2.2] at HSp;have HGG:=hi2 hbg (aI hslg (aI hpg (aI hmx (aI hk12 hd3))));clear hg hsl hLl hk12 hbg hslg hpg hmx;go_wp2_with fail
     refine HSp.out.mono ?_;rintro e VR ⟨err,rfl,FR,hr⟩;have HR:=hi2 FR hr;clear FR hr q0 q1 q2 q3 q4 qz ql HSp;rcases HR.out.2 with⟨rfl,m0,m1,y',x',tops',hI',hx',hL'⟩|⟨rfl,ha,hDn⟩
     ·have HIn:=hi2 hI' (aI hx' hL');clear hI' hx' hL';go_wp2_with fail
      go_roundg f
      case measure=>omega
      case rel =>
       refine⟨rfl,?_⟩;have hI':=HIn.out.1;rw[HGG.out.2.1] at hI';have hT:=ro0 HGG.out.1 (by have:=HGG.out.2.2.2.1;omega) HGG.out.2.2.2.1 HT.out.1 HT.out.2.2.1 HJ.out HGG.out.2.2.2.2.1.1 HGG.out.2.2.2.2.1.2 HIn.out.2.1 hI';obtain⟨tops2,L2,hM2,hP2⟩:=hT.ex;have h1:(t.put g kk (fun _ _=>.node (.leaf (↑m0,↑y.gen) ((es.filter (ak0 oldest)).filter fun x=>!be0 d x)) (.leaf (↑m1,↑y.gen) ((es.filter (ak0 oldest)).filter (be0 d))))).refs.length=t.refs.length+1:=mB9 (bS0 (fun _ _=>.node (.leaf (↑m0,↑y.gen) ((es.filter (ak0 oldest)).filter fun x=>!be0 d x)) (.leaf (↑m1,↑y.gen) ((es.filter (ak0 oldest)).filter (be0 d)))) 2 (fun _ _=>rfl) t g kk);have h2:=HNr.out;have h3:=ei0 (t.put g kk (fun _ _=>.node (.leaf (↑m0,↑y.gen) ((es.filter (ak0 oldest)).filter fun x=>!be0 d x)) (.leaf (↑m1,↑y.gen) ((es.filter (ak0 oldest)).filter (be0 d)))));rw[hT.high] at h3;have h4:(2:Nat)^x'.depth<=2^3:=lc9 dC hM2.small.2.2;refine⟨y',x',tops2,_,L2,sp+1,N1+3+141,hM2,⟨hP2,hT.high,hT.ok,HT.out.2.2.2.trans HIn.out.2.2.1⟩,⟨HIn.out.2.2.2.1.trans HG.out.1,HIn.out.2.2.2.2.trans HG.out.2⟩,?_,⟨oM,oM,oM⟩,⟨oM,oM⟩,FrX.trans HSV5.out.2.2.2.1 HR.out.1⟩;rw[HIn.out.2.1,cA0 _ (dW0 d (es.filter (ak0 oldest))) (fun _ _=>rfl) t g kk];exact HGG.out.2.2.1
     ·have HX:=hi2 ha hDn;clear ha hDn;go_wp2_with fail
      go_ret2;exact⟨false,4,rfl,FrX.trans (FrX.none HF1.out) ((FrX.trans HSV5.out.2.2.2.1 HR.out.1)),.inr ⟨rfl,HX.out.1,aX0 (HX.out.2.mono (by have:=HNr.out;omega)) HT.out.2.2.2⟩⟩
    ·have hd3i:¬ (d:Int)<3:=oM;go_wp2_with fail
     go_quiet (fail)
     have HSV5:=hid (HSV4.out.fr0 ((Fr.refl _ _).drewN nq));clear q0 q1 q2 q3 q4 qz ql t0' t1' t2' t3' tz' tl' i0 i1 i2 i3 i4 iz il;obtain⟨V5,hV5⟩:=eX (V4.drewN nq)
     rw[hV5] at HSV5 ⊢;clear hV5;obtain⟨q0,q1,q2,q3,q4,qz,ql⟩:=cells5 HSV5.out.2.1;obtain⟨t0',t1',t2',t3',tz',tl'⟩:=HB4.out V5 HSV5.out.2.2.2.1;have HEl:=hid (qf0 HSV5.out.2.2.1 (by have:=HK1.out.1;omega) d p);rw[HSV5.out.2.2.2.2] at HEl;have hlen3:3<=(es.filter (ak0 oldest)).length:=by
      have h:=HRo1.out;unfold bJ0 at h;simp only[Bool.or_eq_false_iff,decide_eq_false_iff_not] at h;omega
     obtain⟨i,hbi,hil⟩:=tM0 (es:=(es.filter (ak0 oldest))) (by intro h;rw[h] at hlen3;simp at hlen3);go_wp2_with fail
     refine HEl.out.mono ?_;rintro e V6 ⟨he,FR⟩;rw[hbi] at he;subst he;rw[HSV5.out.2.2.2.2] at hbi;have HSV6:=hid (show PS w1 B bx bd y P a (N1+3) x au0 (t.slots x.depth) L sp b8 r1 d p va1 n1 vc1 (es.filter (ak0 oldest)) V6 from HSV5.out.fr0 FR);have hdel:=gJ0 HSV6.out.2.2.1 (by have:=HK1.out.1;omega) i (i+1) hil rfl;rw[HSV6.out.2.2.2.2] at hdel;have HDl:=hid (show Calls Tryz.prog 135 #[.slice va1 n1 vc1,.int .i64 i,.int .i64 ((i:Int)+1)] V6 _ from hdel);have HRes:=hid (show (⟨(bare t).put x.depth (aY0 E.hash x.depth) (iz0 (bK0 ((es.filter (ak0 oldest)).eraseIdx i) E)),x.depth,sp,true⟩:ea0)=R by
      rw[<- HPS.out,HPe.out,HFe.out,if_neg (by rw[HRo1.out];decide),if_neg hd3,HSV6.out.2.2.2.2,hbi];rfl)
     have HK2:=hid (ng0 HK1.out i);have HRo2:=hid (show bJ0 ((es.filter (ak0 oldest)).eraseIdx i) E.hash 3=true by
      have h1:=HK1.out.1;unfold bJ0;rw[List.length_eraseIdx_of_lt hil];simp only[Bool.or_eq_true,decide_eq_true_eq];exact .inr oM)
     clear hdel hbi HEl FR q0 q1 q2 q3 q4 qz ql t0' t1' t2' t3' tz' tl';have hi9:i<9:=(by have:=HK1.out.1;omega);have HIL:=hid hil;clear hil hlen3;obtain⟨q0,q1,q2,q3,q4,qz,ql⟩:=cells5 HSV6.out.2.1;obtain⟨t0',t1',t2',t3',tz',tl'⟩:=HB4.out V6 HSV6.out.2.2.2.1;go_wp2_with fail
     refine HDl.out.mono ?_;rintro e VD ⟨v',rfl,hoD,FD⟩;obtain⟨va2,vc2,rfl,-,-,-,-⟩:=oSl hoD;obtain⟨n2,hn2⟩:=eX (((es.filter (ak0 oldest)).eraseIdx i).length)
     have HNP2:=hid hn2;have hnb:∀ g,some g=(Value.slice va1 n1 vc1).ownBlock->g≠b8:=fun g hg e=>by
      obtain⟨_,c,hc⟩:=oBT HSV6.out.2.2.1 (show some g=_ by rw[HSV6.out.2.2.2.2];exact hg);rw[e,HSV6.out.2.1] at hc;cases hc
     have hOB:∀ g,(Value.slice va1 n1 vc1).ownBlock=some g->w1.heap.size<=g:=fun g hg=>HOB.out g (by rw[HSV6.out.2.2.2.2];exact hg.symm)
     have HOP:=hi2 (HSV6.out.1.turn (zv0 HSV6.out.2.2.1 (b':=w1.heap.size) (fun g hg=>HOB.out g hg.symm)) (by rw[HSV6.out.2.2.2.2];exact FD) (by have:=HS1.out;omega)) (aI hoD (FrX.newS HSV6.out.2.2.2.1 FD hOB));have HGP:=hid (show VD.heap[b8]?=some (.cells #[.int .i64 r1.1,.int .i64 r1.2,.int .i64 d,.int .i64 p,.slice va1 n1 vc1] 131) from FD.heap HSV6.out.2.1 (fun e=>hnb b8 e.symm rfl));clear q0 q1 q2 q3 q4 qz ql t0' t1' t2' t3' tz' tl' HDl hnb hOB hoD FD hn2;obtain⟨q0,q1,q2,q3,q4,qz,ql⟩:=cells5 HGP.out;rw[HNP2.out];go_upto_region 18 with fail
     obtain⟨V7,hV7⟩:=eX (VD.setCell ⟨b8,4,none⟩ (.slice va2 n2 vc2))
     rw[hV7];have FQ:Fr (fun k=>k=b8) VD V7:=(by rw[<- hV7];exact (Fr.refl (fun k=>k=b8) VD).setCell (a:=⟨b8,_,none⟩) (fun _=>rfl) _);have g8Q:V7.heap[b8]?=some (.cells #[.int .i64 r1.1,.int .i64 r1.2,.int .i64 d,.int .i64 p,.slice va2 n2 vc2] 131):=(by rw[<- hV7];exact hsc _ _ _ _ HGP.out);have hoQ:bm0 V7 0 (.slice va2 ((es.filter (ak0 oldest)).eraseIdx i).length vc2) _:=aS0 (own_base HOP.out.2.1) FQ (fun g hg e=>by
      obtain⟨_,c,hc⟩:=oBT HOP.out.2.1 (show some g=_ from hg.symm);rw[e,HGP.out] at hc;cases hc)
     have HSV7:=hid (show PS w1 B bx bd y P a (N1+3) x au0 (t.slots x.depth) L sp b8 r1 d p va2 n2 vc2 ((es.filter (ak0 oldest)).eraseIdx i) V7 from⟨HOP.out.1.an0 FQ HGP.out dC H8.out.1,g8Q,hoQ,FrX.new HOP.out.2.2 FQ H8.out.2,HNP2.out⟩);clear q0 q1 q2 q3 q4 qz ql hV7 FQ g8Q hoQ HOP HGP hi9;obtain⟨q0,q1,q2,q3,q4,qz,ql⟩:=cells5 HSV7.out.2.1;obtain⟨t0',t1',t2',t3',tz',tl'⟩:=HB4.out V7 HSV7.out.2.2.2.1;have HPt:=hid (mt0 HSV7.out.2.2.1 HK2.out.2.1 (by have:=HK2.out.1;omega) d p E);rw[HSV7.out.2.2.2.2] at HPt;go_wp2_with fail
     refine HPt.out.mono ?_;rintro e VP ⟨ap,cp,rfl,hop,FP⟩;have hIP:=HSV7.out.1.fr0 FP;have g8P:=FP.heap HSV7.out.2.1 id;have FXP:=FrX.trans HSV7.out.2.2.2.1 (FrX.none FP);have hkP:=qZ0 HK2.out HRo2.out HE.out HBk.out.2.2;obtain⟨np,hnp⟩:=eX ((bK0 ((es.filter (ak0 oldest)).eraseIdx i) E).length)
     have HNP:=hid hnp;rw[hnp];clear q0 q1 q2 q3 q4 qz ql t0' t1' t2' t3' tz' tl' HPt hnp;have HOP:=hi2 hIP (aI hop (aI FXP hkP));have HGP:=hid g8P;obtain⟨q0,q1,q2,q3,q4,qz,ql⟩:=cells5 g8P;clear hIP hop FXP hkP g8P FP;go_upto_region 19 with fail
     obtain⟨VQ,hVQ⟩:=eX (((VP.setCell ⟨b8,2,none⟩ (.int .i64 d)).setCell ⟨b8,3,none⟩ (.int .i64 p)).setCell ⟨b8,4,none⟩ (.slice ap np cp))
     rw[hVQ];have FQ:Fr (fun k=>k=b8) VP VQ:=(by rw[<- hVQ];exact ke0 VP b8 _ _ _);have g8Q:VQ.heap[b8]?=some (.cells #[.int .i64 r1.1,.int .i64 r1.2,.int .i64 d,.int .i64 p,.slice ap np cp] 131):=(by rw[<- hVQ];exact eB0 HGP.out _ _ _);have hIQ:=HOP.out.1.an0 FQ HGP.out dC H8.out.1;have hoQ:bm0 VQ 0 (.slice ap (bK0 ((es.filter (ak0 oldest)).eraseIdx i) E).length cp) _:=aS0 (own_base HOP.out.2.1) FQ (fun g hg e=>by
      obtain⟨_,c,hc⟩:=oBT HOP.out.2.1 (show some g=_ from hg.symm);rw[e,HGP.out] at hc;cases hc)
     have FXQ:=FrX.new HOP.out.2.2.1 FQ H8.out.2;have HKe:=hid (dF0 hIQ (j:=j) HJ.out hoQ HOP.out.2.2.2 HD.out.2.1 HD.out.2.2 (gQ0 HBk.out.1 (ll9 HT.out.2.1)) (by have:=HNr.out.2.2.2.2.2.2;omega));rw[HNP.out] at HKe;have HQ:=hid FXQ;clear q0 q1 q2 q3 q4 qz ql hVQ FQ hIQ hoQ FXQ;obtain⟨q0,q1,q2,q3,q4,qz,ql⟩:=cells5 g8Q;go_wp2_with fail
     refine HKe.out.mono ?_;rintro e VR ⟨err,rfl,FR,hr⟩;have HR:=hi2 FR hr;clear FR hr q0 q1 q2 q3 q4 qz ql g8Q HKe;go_wp2_with fail
     go_ret2;refine⟨true,err,rfl,FrX.trans (FrX.none HF1.out) (FrX.trans HQ.out (bC0 HR.out.1 (fun b hb=>.inl hb))),?_⟩;rcases HR.out.2 with⟨rfl,m,y',x',t',hI',hx',hL'⟩|⟨rfl,ha,hDn⟩
     ·refine .inl ⟨rfl,by rw[<- HRes.out],y',x',t.put x.depth (aY0 E.hash x.depth) (fun _ _=>.leaf (↑m,↑y.gen) (bK0 ((es.filter (ak0 oldest)).eraseIdx i) E)),N1+3+20,?_,?_,?_,?_,HT.out.2.2.2.trans hL'.1,hL'.2.1.trans HG.out.1,hL'.2.2.trans HG.out.2⟩
      ·rw[<- HRes.out];exact eP0 HBk.out.1 HT.out.2.1 HT.out.1 HT.out.2.2.1 HJ.out HOP.out.2.2.2 hx' hI'
      ·have h1:(t.put x.depth (aY0 E.hash x.depth) (fun _ _=>.leaf (↑m,↑y.gen) (bK0 ((es.filter (ak0 oldest)).eraseIdx i) E))).refs.length=t.refs.length:=mB9 (bS0 (fun _ _=>.leaf (↑m,↑y.gen) (bK0 ((es.filter (ak0 oldest)).eraseIdx i) E)) 1 (fun _ _=>rfl) t x.depth (aY0 E.hash x.depth));have h2:=HNr.out.2.1;omega
      ·rw[<- HRes.out];exact cA0 _ _ (fun _ _=>rfl) t x.depth _
      ·rw[<- HRes.out];exact hx'
     ·exact .inr ⟨rfl,ha,aX0 (hDn.mono (by have:=HNr.out;omega)) HT.out.2.2.2⟩
end
section
open Go.RowKit Go.Sg CP SF
def drB (es:List Bt)(h:Nat):List Bt:=if hasB es h=true then es.eraseIdx (plI es h) else es
def zN0 (d p:Int)(es:List Bt)(h:Nat)(w:World)(e:Ending)(w':World):Prop:=
 ∃ a c,e = .returned (.tuple #[bkV d p (.slice a (drB es h).length c),.bool (hasB es h)])/\bm0 w' w.heap.size (.slice a (drB es h).length c) (drB es h)/\Fq w w'
theorem td0 {w:World}{v:Value}{es:List Bt}(hE:bm0 w 0 v es)(hs:aa0 es)(hl:es.length<=254)(d p:Int)(h:Nat) :
  Calls Tryz.prog 139 #[bkV d p v,.int .u64 h] w (zN0 d p es h w):=by
 obtain⟨va,vc,rfl,-,-,-,-⟩:=oSl hE;obtain⟨n,hn⟩:=eX es.length
 obtain⟨w1,hw1⟩:=eX ((w.alloc (.cells #[.int .i64 d,.int .i64 p,.slice va n vc] 129)).alloc (.cells #[.int .i64 0,.int .i64 0,.slice none 0 0] 129))
 obtain⟨b0,b1,F1⟩:=ai0 hw1;have HB:=hid (fun W (F:Fq w1 W)=>aI (cells3 (F.heap b0 id)) (cells3 (F.heap b1 id)));have hE1:=oN hE F1;have HPl:=hid (kn0 hE1 hs oM d p h);have HCl:=hid (fun W (F:Fq w1 W)=>iC0 (oN hE1 F) oM);have HF1:=hid F1;have HN:=hid hn;have HL:=hid hl;have HSo:=hid hs;have hsz:w1.heap.size=w.heap.size+2:=by rw[<- hw1];simp
 have HSz:=hid hsz;obtain⟨⟨x0,x1,x2,xz,xl⟩,⟨y0,y1,y2,yz,yl⟩⟩:=HB.out _ (Fr.refl _ _);have HW:=hid hw1;rw[hn] at HPl HCl ⊢;clear hw1 b0 b1 F1 hE hs hl hn hsz hE1;obtain⟨q,hq⟩:=eX (plI es h)
 obtain⟨hb,hhb⟩:=eX (hasB es h)
 have HPl':=hid (show Calls Tryz.prog 199 #[bkV d p (.slice va n vc),.int .u64 h] w1 (fun e w'=>e = .returned (.tuple #[.int .i64 q,.bool hb])/\Fq w1 w') from HPl.out.mono fun e w' hp=>⟨by rw[hp.1,hq,hhb],hp.2⟩);have HQ:=hi2 hq hhb;clear HPl hq hhb;go_enter Tryz.func139,Tryz.ntmps139;go_upto_region 1 with fail
 rw[HW.out];go_wp2_with fail
 refine HPl'.out.mono ?_;rintro e W2 ⟨rfl,F2⟩;have HF2:=hid F2;clear x0 x1 x2 xz xl y0 y1 y2 yz yl F2;obtain⟨⟨x0,x1,x2,xz,xl⟩,⟨y0,y1,y2,yz,yl⟩⟩:=HB.out _ HF2.out;go_wp2_with fail
 refine (HCl.out _ HF2.out).mono ?_;rintro e W3 ⟨v3,rfl,hown3,F3⟩;obtain⟨a3,c3,rfl,-,-,-,-⟩:=oSl hown3;have hs2:w.heap.size+2<=W2.heap.size:=by have:=HSz.out;have:=HF2.out.size;omega
 have HS2:=hid hs2;have H3:=hi2 hown3 (HF2.out.trans F3 nI);clear hown3 F3 x0 x1 x2 xz xl y0 y1 y2 yz yl hs2;obtain⟨⟨x0,x1,x2,xz,xl⟩,⟨y0,y1,y2,yz,yl⟩⟩:=HB.out _ H3.out.2;rw[HN.out];have FS:∀ (W:World) (o:Nat) (u:Value),Fr (fun b=>b=w.heap.size+1) W (W.setCell ⟨w.heap.size+1,o,none⟩ u):=fun W o u=>(Fr.refl (fun b=>b=w.heap.size+1) _).setCell (a:=⟨w.heap.size+1,o,none⟩) (fun _=>rfl) u
 have HFS:=hid FS;clear FS;cases hb with
 | false =>
  have hP:drB es h=es:=by unfold drB;rw[HQ.out.2,if_neg dC]
  have HP:=hid hP;clear hP;go_wp2_with fail
  refine (iS0 d p va n vc a3 n c3 _).mono ?_;rintro e W6 ⟨rfl,F6⟩;have H6:=hi2 F6 (H3.out.2.trans F6 nI);clear F6 x0 x1 x2 xz xl y0 y1 y2 yz yl;obtain⟨⟨x0,x1,x2,xz,xl⟩,⟨y0,y1,y2,yz,yl⟩⟩:=HB.out _ H6.out.2;go_wp2_with fail
  refine bodyPost_ret (v:=.tuple #[bkV d p (.slice a3 n c3),.bool false]) sR rfl ⟨a3,c3,by rw[HP.out,HQ.out.2,HN.out],?_,?_⟩
  ·rw[HP.out];exact aS0 (ac0 (oN H3.out.1 H6.out.1) (by have:=HS2.out;omega)) (((HFS.out _ _ _).trans (HFS.out _ _ _) nI).trans (HFS.out _ _ _) nI) (fun g' hg' e=>by
    have:=(oBT H3.out.1 (g:=g') hg'.symm).1;have:=HS2.out;omega)
  ·exact (((HF1.out.trans H6.out.2 nI).an0 oM _).an0 oM _).an0 oM _
 | true =>
  have hP:drB es h=es.eraseIdx q:=by unfold drB;rw[HQ.out.2,if_pos rfl,HQ.out.1]
  obtain⟨y,hy,-⟩:=(bB0 HSo.out).1 HQ.out.2;rw[HQ.out.1] at hy;have hqn:q<es.length:=(gI.1 hy).1;have hq9:q<254:=by have:=HL.out;omega
  have hdel:=gJ0 H3.out.1 (by have:=HL.out;omega) q (q+1) hqn rfl;rw[HN.out] at hdel;have HDl:=hid (show Calls Tryz.prog 135 #[.slice a3 n c3,.int .i64 q,.int .i64 ((q:Int)+1)] W3 _ from hdel);have HP:=hi2 hP hqn;clear hP hy hqn hdel;go_wp2_with fail
  refine HDl.out.mono ?_;rintro e W5 ⟨v5,rfl,hown5,F5⟩;obtain⟨a5,c5,rfl,-,-,-,-⟩:=oSl hown5;have F15:Fq w1 W5:=H3.out.2.trans F5 (fun b hb e=>by
   have:=(oBT H3.out.1 (g:=b) (by rw[HN.out];exact e.symm)).1;have:=HS2.out;have:=HSz.out;omega)
  have H5:=hi2 hown5 F15;obtain⟨n5,hn5⟩:=eX ((es.eraseIdx q).length)
  have HN5:=hid hn5;rw[hn5];clear x0 x1 x2 xz xl y0 y1 y2 yz yl F15 F5 hown5 hn5;obtain⟨⟨x0,x1,x2,xz,xl⟩,⟨y0,y1,y2,yz,yl⟩⟩:=HB.out _ H5.out.2;go_wp2_with fail
  refine (iS0 d p va n vc a5 n5 c5 _).mono ?_;rintro e W6 ⟨rfl,F6⟩;have H6:=hi2 F6 (H5.out.2.trans F6 nI);clear F6 x0 x1 x2 xz xl y0 y1 y2 yz yl;obtain⟨⟨x0,x1,x2,xz,xl⟩,⟨y0,y1,y2,yz,yl⟩⟩:=HB.out _ H6.out.2;go_wp2_with fail
  refine bodyPost_ret (v:=.tuple #[bkV d p (.slice a5 n5 c5),.bool true]) sR rfl ⟨a5,c5,by rw[HP.out.1,HQ.out.2,HN5.out],?_,?_⟩
  ·rw[HP.out.1];exact aS0 (ac0 (oN H5.out.1 H6.out.1) (by have:=HS2.out;omega)) (((HFS.out _ _ _).trans (HFS.out _ _ _) nI).trans (HFS.out _ _ _) nI) (fun g' hg' e=>by
    have:=(oBT H5.out.1 (g:=g') hg'.symm).1;have:=HS2.out;omega)
  ·exact (((HF1.out.trans H6.out.2 nI).an0 oM _).an0 oM _).an0 oM _
end
section
open Go.RowKit Go.Sg Go.Sg.Bits Go.Sg.Clk CP SF
def eW0 (t:Tr)(g:Nat)(h:Nat):Tr × Bool:=
 let b:=t.at_ g (aY0 h g) 0 0
 if hasB b.2.2.2 h=true then (t.put g (aY0 h g) (iz0 (drB b.2.2.2 h)),true) else (t,false)
def zM0 (B:Blk)(bx bd:Nat)(y:Cs)(P:aC0)(a:Bool)(N:Nat)(g:Nat)(sp:Int)(R:Tr × Bool)(n:Nat)(w:World)(e:Ending)(w':World):Prop:=
 ∃ (ok:Bool) (err:Int),e = .returned (.tuple #[.bool ok,.int .i64 err])/\FrX B (fun b=>b=bd\/b=bx) w w' /\
  ((err=0/\ok=R.2/\∃ (y':Cs) (x':aL0) (t':Tr),fk0 w' B bx bd y' P a N x' t' sp/\(bare t'=R.1/\t'.refs.length=n)/\x'.depth=g/\(Like y y'/\y'.gen=y.gen/\y'.dead=y.dead))\/(err=4/\a=true/\aP0 w' B y P N))
variable {N bd bx d hash p:Nat}{es:List Bt}{w:World}{a:Bool}{sp:Int}
theorem wn0 (h:dn0 d p es)(k:Nat):dn0 d p (drB es k):=by
 unfold drB;split
 ·exact ng0 h _
 ·exact h
variable {B:Blk}{y:Cs}{x:aL0}
theorem vm0 {P:aQ0}{t:Tr}(h:fk0 w B bx bd y P a N x t sp)(hh:hash<18446744073709551616)(hN:N+23<=90000) :
  Calls Tryz.prog 70 #[cG0 bx,.int .u64 hash] w (zM0 B bx bd y P a (N+23) x.depth sp (eW0 (bare t) x.depth hash) t.refs.length w):=by
 obtain⟨au0,L,hM,hP⟩:=h.ex;have hdep:=h.depth;have hblt:=hM.gR0;have hkl:aY0 hash x.depth<2^x.depth:=ii0 oM hh;obtain⟨d,p,r,es,hb⟩:=nf0 hkl (ll9 h.high) h.ok hP;obtain⟨j,hj⟩:=lC9.1 hb.mem;have hdg:=hb.dg;have hp2:=hb.pl;have HOf:=hid (tx0 hM hh hb.slot hb.mem hb.ok oM hp2 oM);have HD0:=hid (show eW0 (bare t) x.depth hash=if hasB es hash=true then ((bare t).put x.depth (aY0 hash x.depth) (iz0 (drB es hash)),true) else (bare t,false) by
  unfold eW0;rw[gS0,hb.at_])
 have HT:=hi2 h (aI hP (aI hdep (aI hN (aI hdg hp2))));have HBk:=hi2 hb hb.ok;have HJ:=hid hj;have HBl:=hid hblt;clear h hP hdep hN hdg hp2 hb hj hblt hM hkl hh;obtain⟨R,hR⟩:=eX (eW0 (bare t) x.depth hash)
 have HR0:=hid (HD0.out.symm.trans hR);rw[hR];clear hR HD0;go_enter Tryz.func70,Tryz.ntmps70;go_wp2_with fail
 refine HOf.out.mono ?_;rintro e V1 ⟨r1,d1,p1,va,n,vc,err,rfl,F1,hr⟩;have HR1:=hi2 F1 hr;clear F1 hr HOf;obtain⟨b8,hb8⟩:=eX V1.heap.size
 have H8:=hid (show 0<b8/\w.heap.size<=b8 by
  have h2:=HR1.out.1.size;have h3:=HBl.out;omega)
 go_upto_region 4 with fail
 obtain⟨V2,hV2⟩:=eX (V1.alloc (.cells #[.int .i64 r1.1,.int .i64 r1.2,.int .i64 d1,.int .i64 p1,.slice va n vc] 131))
 rw[hV2];have FV:Fq V1 V2:=by rw[<- hV2];exact (Fr.refl _ _).alloc _
 have g8:V2.heap[b8]?=some (.cells #[.int .i64 r1.1,.int .i64 r1.2,.int .i64 d1,.int .i64 p1,.slice va n vc] 131):=by rw[<- hV2,<- hb8];exact han _ _
 have HF2:=hid (FrB.trans HR1.out.1 (FrB.none FV));have HFV:=hid FV;have HG8:=hid g8;clear hb8 hV2 FV g8;rcases HR1.out.2 with⟨rfl,⟨rfl,rfl,rfl,hn⟩,ho,hM⟩|⟨rfl,ha,hDn⟩
 rotate_left
 ·have HX:=hi2 ha (hDn.fr0 HFV.out);clear ha hDn;go_wp2_with fail
  go_ret2;exact⟨false,4,rfl,FrX.of HF2.out,.inr ⟨rfl,HX.out.1,HX.out.2.mono oM⟩⟩
 ·have HM:=hid (hM.fr0 HFV.out);have hown:=oN (own_base ho) HFV.out;have hdr:=td0 hown HBk.out.2.2.1 (by have:=HBk.out.2.1;omega) d p hash;rw[<- hn] at hdr;have HDr:=hid hdr;clear ho hM hn hown hdr;obtain⟨q0,q1,q2,q3,q4,qz,ql⟩:=cells5 HG8.out;go_wp2_with fail
  refine HDr.out.mono ?_;rintro e V3 ⟨a3,c3,rfl,ho3,F3⟩;have HO3:=hi2 ho3 F3;obtain⟨n3,hn3⟩:=eX ((drB es hash).length)
  have HN3:=hid hn3;rw[hn3];obtain⟨hb,hhb⟩:=eX (hasB es hash)
  have HHb:=hid hhb;rw[hhb];clear ho3 hn3 hhb q0 q1 q2 q3 q4 qz ql HDr F3;obtain⟨b9,hb9⟩:=eX V3.heap.size
  go_upto_region 7 with fail
  obtain⟨V4,hV4⟩:=eX (V3.alloc (.cells #[.int .i64 d,.int .i64 p,.slice a3 n3 c3] 129))
  rw[hV4];have F4:Fq V3 V4:=by rw[<- hV4];exact (Fr.refl _ _).alloc _
  have g9:V4.heap[b9]?=some (.cells #[.int .i64 d,.int .i64 p,.slice a3 n3 c3] 129):=by rw[<- hV4,<- hb9];exact han _ _
  have F34:=HO3.out.2.trans F4 nI;have HM4:=hid (HM.out.fr0 F34);have HO4:=hid (oN (own_base HO3.out.1) F4);have HF4:=hid (FrB.trans HF2.out (FrB.none F34));obtain⟨q0,q1,q2,q3,q4,qz,ql⟩:=cells5 (F34.heap HG8.out id);obtain⟨s0,s1,s2,sz,sl⟩:=cells3 g9;clear hV4 hb9 F4 g9 F34;cases hb with
  | false =>
   go_wp2_with fail
   go_ret2;have hR:=HR0.out;rw[HHb.out,if_neg dC] at hR;refine⟨false,0,rfl,FrX.of HF4.out,.inl ⟨rfl,by rw[<- hR],y,x,t,⟨⟨au0,L,HM4.out.mono oM HT.out.2.2.2.1,HT.out.2.1⟩,HT.out.1.high,HT.out.1.ok⟩,⟨by rw[<- hR],rfl⟩,rfl,Like.refl y,rfl,rfl⟩⟩
  | true =>
   have hkp:=wn0 HBk.out.2 hash;have hke:=dF0 HM4.out (j:=j) HJ.out HO4.out hkp HT.out.2.2.2.2.1 HT.out.2.2.2.2.2 (gQ0 HBk.out.1 (ll9 HT.out.1.high)) (by have:=HT.out.2.2.2.1;omega);rw[HN3.out] at hke;have HKe:=hid hke;have HKp:=hid hkp;clear hke hkp;go_wp2_with fail
   refine HKe.out.mono ?_;rintro e VR ⟨err,rfl,FR,hr⟩;have HR:=hi2 FR hr;clear FR hr q0 q1 q2 q3 q4 qz ql s0 s1 s2 sz sl HKe;go_wp2_with fail
   go_ret2;have hR:=HR0.out;rw[HHb.out,if_pos rfl] at hR;refine⟨true,err,rfl,FrX.trans (FrX.of HF4.out) (bC0 HR.out.1 (fun b hb=>.inl hb)),?_⟩;rcases HR.out.2 with⟨rfl,m,y',x',t',hI',hx',hL'⟩|⟨rfl,ha,hDn⟩
   ·refine .inl ⟨rfl,by rw[<- hR],y',x',t.put x.depth (aY0 hash x.depth) (fun _ _=>.leaf (↑m,↑y.gen) (drB es hash)),eP0 HBk.out.1 HT.out.1.high HT.out.1.ok HT.out.2.1 HJ.out HKp.out hx' hI',⟨?_,?_⟩,hx',hL'⟩
    ·rw[<- hR];exact cA0 _ _ (fun _ _=>rfl) t x.depth _
    ·exact mB9 (bS0 (fun _ _=>.leaf (↑m,↑y.gen) (drB es hash)) 1 (fun _ _=>rfl) t x.depth (aY0 hash x.depth))
   ·exact .inr ⟨rfl,ha,hDn⟩
theorem gd0 (W:World)(b:Nat)(u0 u1 u2:Value):Fr (fun k=>k=b) W (((W.setCell ⟨b,0,none⟩ u0).setCell ⟨b,1,none⟩ u1).setCell ⟨b,2,none⟩ u2):=
 (((Fr.refl (fun k=>k=b) W).setCell (a:=⟨b,_,none⟩) (fun _=>rfl) _).setCell (a:=⟨b,_,none⟩) (fun _=>rfl) _).setCell (a:=⟨b,_,none⟩) (fun _=>rfl) _
theorem FrB.AD0 {w1 V V':World}(F1:Fq w w1)(h:FrB B w1 V)(F:Fr (fun k=>k=w.heap.size) V V'):FrB B w V':=Fr.trans (FrB.trans (FrB.none F1) h) F fun k hk e=>by omega
def zH0 (B:Blk)(bx bd:Nat)(y:Cs)(P:aC0)(a:Bool)(N:Nat)(x:aL0)(au0 slots:List Rf)(L:List Bp)(sp:Int)(es:List Bt)(h:Nat)(w:World)(e:Ending)(w':World):Prop:=
 ∃ (c0 c1 c2:Int) (ok:Bool) (err:Int),e = .returned (.tuple #[.agg #[.int .i64 c0,.int .i64 c1,.int .i64 c2],.bool ok,.int .i64 err])/\FrB B w w' /\
  ((err=0/\ok=hasB es h/\.agg #[.int .i64 c0,.int .i64 c1,.int .i64 c2]=to0 (atB es h)/\aD0 w' B bx bd y P a N x au0 slots L sp)\/(err=4/\a=true/\aP0 w' B y P N))
theorem rb0 (o:Option Bt):∃ c0 c1 c2:Int,to0 o = .agg #[.int .i64 c0,.int .i64 c1,.int .i64 c2]:=by
 cases o with
 | none=>exact⟨_,_,_,rfl⟩
 | some e=>exact⟨_,_,_,rfl⟩
variable {au0:List Rf}{r:Rf}
theorem vl0 {P:aC0}{slots:List Rf}{L:List Bp}(h:aD0 w B bx bd y P a N x au0 slots L sp)(hh:hash<18446744073709551616)(hs:slots[aY0 hash x.depth]?=some r)(hq:(r,aA0 d p es) ∈ L)(hk:dn0 d p es)(hd:d<=8)(hp:p<2^d)(hN:N+3<=90000) :
  Calls Tryz.prog 66 #[cG0 bx,.int .u64 hash] w (zH0 B bx bd y P a (N+3) x au0 slots L sp es hash w):=by
 obtain⟨w1,hw1⟩:=eX (w.alloc (.cells #[.int .i64 0,.int .i64 0,.int .i64 0] 116))
 have b4:w1.heap[w.heap.size]?=some (.cells #[.int .i64 0,.int .i64 0,.int .i64 0] 116):=by rw[<- hw1];exact han _ _
 have F1:Fq w w1:=by rw[<- hw1];exact (Fr.refl _ _).alloc _
 have hs1:w1.heap.size=w.heap.size+1:=by rw[<- hw1];simp
 have HB4:=hid (fun (V:World) (F:FrB B w1 V)=>cells3 (F.heap b4 dC));have HB5:=hid (fun (V:World) (F:FrB B w1 V)=>F.heap b4 dC);have HBl:=hid (show 0<w.heap.size by have:=h.gR0;omega);have HOf:=hid (tx0 (h.fr0 F1) hh hs hq hk hd hp hN);have HF1:=hid F1;have HS1:=hid hs1;have HK:=hi2 hk hN;have HW:=hid hw1;obtain⟨a0,a1,a2,az,al⟩:=HB4.out _ (FrB.refl _ _);clear h hw1 b4 F1 hs1 hs hq hk hd hp hN hh;go_enter Tryz.func66,Tryz.ntmps66;go_upto_region 1 with fail
 rw[HW.out];go_wp2_with fail
 refine HOf.out.mono ?_;rintro e V1 ⟨r1,d1,p1,va,n,vc,err,rfl,F1,hr⟩;have HR1:=hi2 F1 hr;clear F1 hr HOf a0 a1 a2 az al;obtain⟨b8,hb8⟩:=eX V1.heap.size
 have H8:=hid (show w.heap.size<b8 by
  have h2:=HR1.out.1.size;have h3:=HS1.out;omega)
 go_upto_region 4 with fail
 obtain⟨V2,hV2⟩:=eX (V1.alloc (.cells #[.int .i64 r1.1,.int .i64 r1.2,.int .i64 d1,.int .i64 p1,.slice va n vc] 131))
 rw[hV2];have FV:Fq V1 V2:=by rw[<- hV2];exact (Fr.refl _ _).alloc _
 have g8:V2.heap[b8]?=some (.cells #[.int .i64 r1.1,.int .i64 r1.2,.int .i64 d1,.int .i64 p1,.slice va n vc] 131):=by rw[<- hV2,<- hb8];exact han _ _
 have HF2:=hid (FrB.trans HR1.out.1 (FrB.none FV));have HFV:=hid FV;have HG8:=hid g8;clear hb8 hV2 FV g8;rcases HR1.out.2 with⟨rfl,⟨rfl,rfl,rfl,hn⟩,ho,hM⟩|⟨rfl,ha,hDn⟩
 rotate_left
 ·have HX:=hi2 ha (hDn.fr0 HFV.out);clear ha hDn;obtain⟨a0,a1,a2,az,al⟩:=HB4.out _ HF2.out;go_wp2_with fail
  refine bodyPost_ret (v:=.tuple #[.agg #[.int .i64 0,.int .i64 0,.int .i64 0],.bool false,.int .i64 4]) sR rfl ?_;exact⟨0,0,0,false,4,rfl,FrB.AD0 HF1.out HF2.out (gd0 _ _ _ _ _),.inr ⟨rfl,HX.out.1,HX.out.2.frL (gd0 _ _ _ _ _) (HB5.out _ HF2.out) dC⟩⟩
 ·have HM:=hid (hM.fr0 HFV.out);have HFd:=hid (find_ok (oN (own_base ho) HFV.out) HK.out.1.2.1 (by have:=HK.out.1.1;omega) d p hash);rw[<- hn] at HFd;clear ho hM hn;obtain⟨a0,a1,a2,az,al⟩:=HB4.out _ HF2.out;obtain⟨q0,q1,q2,q3,q4,qz,ql⟩:=cells5 HG8.out;go_wp2_with fail
  refine HFd.out.mono ?_;rintro e V3 ⟨rfl,F3⟩;obtain⟨c0,c1,c2,hloc⟩:=rb0 (atB es hash);obtain⟨ok,hok⟩:=eX (hasB es hash)
  have HL:=hi2 hloc hok;rw[hloc,hok];have HF3:=hid F3;clear F3 a0 a1 a2 az al q0 q1 q2 q3 q4 qz ql hloc hok HFd;obtain⟨a0,a1,a2,az,al⟩:=HB4.out _ (FrB.trans HF2.out (FrB.none HF3.out));go_wp2_with fail
  refine bodyPost_ret (v:=.tuple #[.agg #[.int .i64 c0,.int .i64 c1,.int .i64 c2],.bool ok,.int .i64 0]) sR rfl ?_;have F4:=FrB.trans HF2.out (FrB.none HF3.out);refine⟨c0,c1,c2,ok,0,rfl,FrB.trans (FrB.AD0 HF1.out F4 (gd0 _ _ _ _ _)) (FrB.none ((Fr.refl _ _).alloc _)),.inl ⟨rfl,HL.out.2.symm,HL.out.1.symm,?_⟩⟩;exact ((HM.out.fr0 HF3.out).an0 (gd0 _ _ _ _ _) (HB5.out _ F4) dC HBl.out).fr0 ((Fr.refl _ _).alloc _)
theorem jn0 (h:∀ k,y.taken k=false)(hd:∀ k,y.dying k=false)(he:∀ k,y.dead k=false):Live y [] 11:=
 ⟨no9,fun k hk=>(by cases hk),fun k hk=>(by cases hk),fun k _ ht=>(by rw[h] at ht;cases ht),⟨[],fun k hk=>(by rw[hd] at hk;cases hk),by simp⟩,⟨[],fun k hk=>(by rw[he] at hk;cases hk),by simp⟩⟩
theorem AK0:atZ aE0=⟨6,3,0,0,0⟩:=by
 have h6:(cd0 aE0).per.toNat=6:=by decide +kernel
 unfold atZ;rw[h6];rfl
theorem vN0:xx0 aE0=3:=by decide +kernel
theorem zw0 (y:Cs)(c:Cont)(D:Dev)(hD:D=Dev.fresh 120 96)(hy:y=rO0 aE0 0 D c):y.plan=aE0/\y.pages=108/\y.room=77/\y.places=8/\y.gen=1/\y.cont=c/\(∀ k,y.taken k=false)/\(∀ k,y.fresh k=false)/\(∀ k,y.dying k=false)/\∀ k,y.dead k=false:=by
 subst hy hD;exact⟨rfl,(show (cd0 aE0).pages.toNat=108 by decide +kernel),rfl,rfl,rfl,rfl,fun _=>rfl,fun _=>rfl,fun _=>rfl,fun _=>rfl⟩
theorem yO0 {N' m0 m1 m2:Nat}{ld:List Int}(h0:aw0 w B y noP false N)(hp:y.plan=aE0)(hpg:y.pages=108)(hrm:y.room=77)(hpl:y.places=8)(ht:∀ k,y.taken k=false)(hd:∀ k,y.dying k=false)(he:∀ k,y.dead k=false)
  (t0:br0 y.taken y.pages y.hand m0) (t1:br0 (y.new m0 ld).taken y.pages (y.new m0 ld).hand m1) (t2:br0 ((y.new m0 ld).new m1 (ae0 [((m0:Int),(y.gen:Int))])).taken y.pages ((y.new m0 ld).new m1 (ae0 [((m0:Int),(y.gen:Int))])).hand m2)
  {w':World} (hS:aw0 w' B (((y.new m0 ld).new m1 (ae0 [((m0:Int),(y.gen:Int))])).new m2 (ae0 [((m1:Int),(y.gen:Int))])) noP false N') (hD:aj0 w' bd B.s { atZ y.plan with rp:=m2,rs:=y.gen }) (hI:cn0 w' bx B.s bd 3 3 0) (hbase:B.base<=bd/\B.base<=bx) :
  ∃ y' x au0,aD0 w' B bx bd y' noP false N' x au0 [((m0:Int),(y.gen:Int))] [(((m0:Int),(y.gen:Int)),ld)] 0/\x.depth=0/\(Like y y'/\y'.gen=y.gen/\y'.dead=y.dead):=by
 have hfit:cj0 y.plan=true:=by rw[hp];exact bU0
 have hL:=jn0 ht hd he;have hgl:=bT0 h0;have hm0:m0<108:=by rw[<- hpg];exact t0.1
 have hm1:m1<108:=by rw[<- hpg];exact t1.1
 have hm2:m2<108:=by rw[<- hpg];exact t2.1
 have n01:m0≠m1:=fun e=>by have:=t1.2.1;simp[Cs.new,upd,e] at this
 have n02:m0≠m2:=fun e=>by have:=t2.2.1;simp[Cs.new,upd,e] at this
 have n12:m1≠m2:=fun e=>by have:=t2.2.1;simp[Cs.new,upd,e] at this
 rw[hp,AK0] at hD;have a0:=h0.apart;have a1:Apart (y.new m0 ld).taken (y.new m0 ld).fresh (y.new m0 ld).dying (y.new m0 ld).dead:=a0.new t0.2.1;have a2:Apart ((y.new m0 ld).new m1 (ae0 [((m0:Int),(y.gen:Int))])).taken ((y.new m0 ld).new m1 (ae0 [((m0:Int),(y.gen:Int))])).fresh ((y.new m0 ld).new m1 (ae0 [((m0:Int),(y.gen:Int))])).dying ((y.new m0 ld).new m1 (ae0 [((m0:Int),(y.gen:Int))])).dead:=a1.new t1.2.1;have l2:=((hL.new (bs:=ld) a0 t0).new (bs:=ae0 [((m0:Int),(y.gen:Int))]) a1 t1).new (bs:=ae0 [((m1:Int),(y.gen:Int))]) a2 t2;have e2:(([]:List Nat)++[m0]++[m1]++[m2]).Perm (pgs (m2:Int) [((m1:Int),(y.gen:Int))]++bpg [(((m0:Int),(y.gen:Int)),ld)]):=by
  simp only[pgs,bpg,mj9,mH9,le9,mF9,lG9,lo9];exact (List.Perm.swap _ _ _).trans (((List.Perm.swap _ _ _).cons _).trans (List.Perm.swap _ _ _))
 refine⟨_,⟨6,3,0,m2,y.gen⟩,[((m1:Int),(y.gen:Int))],⟨hS,hI,hD,⟨?_,(by simp[aL0.slots]),(by simp[aL0.leaves,aL0.slots]),⟨?_,?_,?_⟩,⟨by simp,by simp⟩,?_⟩,(l2.perm e2).r _,?_,by simp,hp,hpg,hrm,hpl,⟨rfl,rfl⟩,hbase⟩,rfl,⟨?_,rfl,rfl⟩⟩
 ·refine wb0 (x:=⟨6,3,0,(m2:Int),(y.gen:Int)⟩) (by simpa[Cs.new] using hfit) (by simp only[Cs.new];rw[hp];decide +kernel) (by simp only[Cs.new];rw[hp];rfl) (by simp only[Cs.new];rw[hp,hrm];rfl) sP (by simp only[Cs.new];omega)
 ·intro q hq;simp at hq;subst hq;exact cU0 oM hgl
 ·intro q hq;simp at hq;subst hq;exact cU0 oM hgl
 ·intro i q hi;cases i with
  | zero =>
   simp at hi;subst hi;simp only[Cs.new];rw[ee0 oM,iT0];simp[chunk]
  | succ i=>simp at hi
 ·simp only[Cs.new];rw[iT0];simp
 ·intro q hq;simp at hq;subst hq;refine⟨cU0 oM hgl,?_⟩;simp only[Cs.new];rw[ee0 oM,ee0 oM,iT0];simp
 ·exact⟨rfl,rfl,rfl,rfl,rfl,rfl,rfl⟩
def By0 (B:Blk)(y:Cs)(N:Nat)(w:World)(e:Ending)(w':World):Prop:=
 ∃ (bx bd:Nat) (y':Cs) (x:aL0) (au0:List Rf) (r:Rf),e = .returned (.tuple #[cG0 bx,.int .i64 0])/\FrB B w w'/\(w.heap.size<=bx/\w.heap.size<=bd)/\aD0 w' B bx bd y' noP false (N+3) x au0 [r] [(r,aA0 0 0 [])] 0/\x.depth=0/\(Like y y'/\y'.gen=y.gen/\y'.dead=y.dead)
theorem qz0 (h:aw0 w B y noP false N)(hp:y.plan=aE0)(hpg:y.pages=108)(hrm:y.room=77)(hpl:y.places=8)(ht:∀ k,y.taken k=false)(hd:∀ k,y.dying k=false)(he:∀ k,y.dead k=false)(hb:B.base<=w.heap.size)(hN:N+3<=90000) :
  Calls Tryz.prog 127 #[B.ptr] w (By0 B y N w):=by
 have hfit:cj0 y.plan=true:=by rw[hp];exact bU0
 have HOn:=hid (vB0 h hfit);have HH:=hi2 h (aI hp (aI hpg (aI hrm (aI hpl (aI ht (aI hd (aI he (aI hb hN))))))));clear h hp hpg hrm hpl ht hd he hfit;go_enter Tryz.func127,Tryz.ntmps127;go_wp2_with fail
 refine HOn.out.mono ?_;rintro e w1 ⟨bx,rfl,hbx,hbxl,F1⟩;rw[HH.out.2.1,vN0] at hbx;have hPk:=kp0 (w:=w1) (v:=.slice none 0 0) (es:=[]) ⟨by simp,.inl ⟨rfl,rfl⟩⟩ sP sP 0 0 3 dC dC sP dC (fun W F=>by
  have:=gP0 (w:=W) (v:=.slice none 0 0) (es:=[]) ⟨by simp,.inl ⟨rfl,rfl⟩⟩ List.Pairwise.nil 0 0 3 dC dC dC dC sP sP;exact this)
 have HPk:=hid (show Calls Tryz.prog 188 #[.agg #[.int .i64 0,.int .i64 0,.slice none 0 0],.int .i64 3] w1 (fun e w'=>∃ a c,e = .returned (.tuple #[.slice a 10 c,.int .i64 0])/\ByV w' a 10 c (aA0 0 0 [])/\Fq w1 w') from hPk);obtain⟨i0,i1,i2,i3,i4,iz,il⟩:=cells5 hbx;have HX:=hi2 hbx (aI hbxl F1);clear hbx hbxl F1 hPk;go_wp2_with fail
 refine HPk.out.mono ?_;rintro e w2 ⟨pa,pc,rfl,hby,F2⟩;have hS2:=(HH.out.1.fr0 HX.out.2.2).fr0 F2;have HNw:=hid (pX0 hS2 (hby.inp B) (cL0 0 0 []) (by rw[HH.out.2.2.2.1];decide) ⟨0,by rw[HH.out.2.2.1];decide,HH.out.2.2.2.2.2.1 0⟩ (by have:=HH.out.2.2.2.2.2.2.2.2.2;omega));have H2:=hi2 (F2.heap HX.out.1 id) (aI (HX.out.2.2.trans F2 nI) hS2);clear F2 hby hS2 HPk i0 i1 i2 i3 i4 iz il;obtain⟨i0,i1,i2,i3,i4,iz,il⟩:=cells5 H2.out.1;go_wp2_with fail
 refine HNw.out.mono ?_;rintro e w3 ⟨p,s,err,rfl,F3,⟨rfl,m0,rfl,rfl,t0,hS3⟩|⟨_,ha,_⟩⟩;rotate_left
 ·cases ha
 have g3:=F3.heap H2.out.1 dC;have HT0:=hid t0;have H3:=hi2 F3 (aI g3 hS3);clear F3 g3 hS3 t0 HNw i0 i1 i2 i3 i4 iz il;obtain⟨w4,hw4⟩:=eX (w3.alloc (.cells #[.int .i64 m0,.int .i64 y.gen] 35))
 have F4:Fq w3 w4:=by rw[<- hw4];exact (Fr.refl _ _).alloc _
 have b4:w4.heap[w3.heap.size]?=some (.cells #[.int .i64 m0,.int .i64 y.gen] 35):=by rw[<- hw4];exact han _ _
 have hm0:m0<108:=by have:=HT0.out.1;rw[HH.out.2.2.1] at this;exact this
 have hl1:=(jn0 HH.out.2.2.2.2.2.1 HH.out.2.2.2.2.2.2.1 HH.out.2.2.2.2.2.2.2.1).new (bs:=aA0 0 0 []) HH.out.1.apart HT0.out;have hMk:=mL0 (H3.out.2.2.fr0 F4) (show cj0 (y.new m0 (aA0 0 0 [])).plan=true by show cj0 y.plan=true;rw[HH.out.2.1];exact bU0) hl1 (by show ([]++[m0]).length+1+2*11<y.pages;rw[HH.out.2.2.1];simp) (by show y.pages<=_;rw[HH.out.2.2.1];decide) (by show 12<=y.room;rw[HH.out.2.2.2.1];decide) ((m0:Int),(y.gen:Int)) (cU0 oM (bT0 HH.out.1)) (by have:=HH.out.2.2.2.2.2.2.2.2.2;omega);have HMk:=hid hMk;have HF4:=hid F4;have HW4:=hid hw4;have HG4:=hid (F4.heap H3.out.2.1 id);obtain⟨c0,c1,cz,cl⟩:=cells2 b4;obtain⟨i0,i1,i2,i3,i4,iz,il⟩:=cells5 HG4.out;clear hMk hl1 hw4 F4 b4 hm0;go_upto_region 8 with fail
 rw[HW4.out];go_wp2_with fail
 refine HMk.out.mono ?_;rintro e w5 ⟨v,err,rfl,F5,⟨rfl,bd,m1,m2,rfl,hbd,hD,t1,t2,hS⟩|⟨_,ha,_⟩⟩;rotate_left
 ·cases ha
 have g5:=F5.heap HG4.out dC;have H5:=hi2 F5 (aI g5 (aI hbd (aI hD (aI t1 (aI t2 hS)))));clear F5 g5 hbd hD t1 t2 hS HMk i0 i1 i2 i3 i4 iz il c0 c1 cz cl;obtain⟨i0,i1,i2,i3,i4,iz,il⟩:=cells5 H5.out.2.1;go_wp2_with fail
 go_ret2;have F0:FrB B w w5:=FrB.trans (FrB.none H2.out.2.1) (FrB.trans H3.out.1 (FrB.trans (FrB.none HF4.out) H5.out.1));have F6:Fr (fun k=>k=bx) w5 (w5.setCell ⟨bx,1,none⟩ (cR0 bd)):=(Fr.refl (fun k=>k=bx) w5).setCell (a:=⟨bx,1,none⟩) (fun _=>rfl) _;have hbdw:w.heap.size<=bd:=nT (FrB.trans (FrB.none H2.out.2.1) (FrB.trans H3.out.1 (FrB.none HF4.out))).size H5.out.2.2.1;have hbxw:w.heap.size<=bx:=HX.out.2.1;have hI:=yO0 (ld:=aA0 0 0 []) HH.out.1 HH.out.2.1 HH.out.2.2.1 HH.out.2.2.2.1 HH.out.2.2.2.2.1 HH.out.2.2.2.2.2.1 HH.out.2.2.2.2.2.2.1 HH.out.2.2.2.2.2.2.2.1 HT0.out H5.out.2.2.2.2.1 H5.out.2.2.2.2.2.1 (H5.out.2.2.2.2.2.2.frL F6 H5.out.2.1 dC (by have:=HH.out.1.base;have:=HH.out.1.bs0;omega)) (F6.heap H5.out.2.2.2.1 (fun e=>by have h1:=H5.out.2.2.2.1;unfold aj0 at h1;rw[e,H5.out.2.1] at h1;cases h1)) (hsc _ _ _ _ H5.out.2.1) ⟨nT HH.out.2.2.2.2.2.2.2.2.1 hbdw,nT HH.out.2.2.2.2.2.2.2.2.1 hbxw⟩;obtain⟨y',x,au0,hM,hx,hL⟩:=hI;exact⟨bx,bd,y',x,au0,_,rfl,Fr.trans F0 F6 (fun k hk e=>oM),⟨hbxw,hbdw⟩,hM,hx,hL⟩
def zD0 (w:World)(e:Ending)(w':World):Prop:=
 ∃ (B:Blk) (bx bd:Nat) (y:Cs) (x:aL0) (r:Rf),e = .returned (.tuple #[.pointer (some ⟨B.d,0,none⟩),B.ptr,cG0 bx])/\Fq w w'/\(B.base=w.heap.size/\w.heap.size<=bx/\w.heap.size<=bd)/\fk0 w' B bx bd y noP false 3 x (.leaf r []) 0/\x.depth=0/\(y.gen=1/\(∀ k,y.dead k=false)/\y.first=12)
theorem uy0 (h:aD0 w B bx bd y noP false N x au0 [r] [(r,aA0 0 0 [])] 0)(hx:x.depth=0):fk0 w B bx bd y noP false N x (.leaf r []) 0:=
 ⟨⟨au0,_,by rw[hx];exact h,List.Perm.refl _⟩,by rw[hx];rfl,⟨by simp,List.Pairwise.nil,by simp⟩⟩
theorem li0 (w:World)(hT:Tab w):Calls Tryz.prog 62 #[] w (zD0 w):=by
 have hT0:=hT.lt;have HT:=hid hT;have H20:=hid (mY0 120 96 oM oM w);clear hT;go_enter Tryz.func62,Tryz.ntmps62;go_wp2_with fail
 refine H20.out.mono ?_;rintro e w1 ⟨rfl,hD,F1⟩;have HD:=hid hD;have HF1:=hid F1;clear hD F1;go_wp2_with fail
 refine (jd0 _).mono ?_;rintro e w2 ⟨rfl,F2⟩;have HF2:=hid (HF1.out.trans F2 nI);have HD2:=hid (HD.out.fr F2 id id id (fun _ _ _ _ _ h=>h));clear F2;go_wp2_with fail
 have H19:=tE0 HD2.out HF2.out.size (HT.out.fr HF2.out id) hT0 3 2 4 3 8 0 bU0;refine H19.mono ?_;rintro e w3 ⟨B,hB,rfl,hS,F3⟩;have HF3:=hid (HF2.out.trans F3 nI);have hbase:B.base=w.heap.size:=hB.1;have HB:=hid hB;obtain⟨a1,a2,a3,a4,a5,a6,a7,a8,a9,a10⟩:=zw0 _ (fun _=>none) _ rfl rfl;have HM:=hid (qz0 hS a1 a2 a3 a4 a7 a9 a10 (by rw[hbase];exact HF3.out.size) oM);have HG:=hi2 a5 (aI a10 (show (rO0 aE0 0 (Dev.fresh 120 96) (fun _=>none)).first=12 from (show (cd0 aE0).page=12 by decide +kernel)));clear hB hS F3 H19 HD HD2 H20 HF2 HF1 a1 a2 a3 a4 a5 a6 a7 a8 a9 a10;go_wp2_with fail
 refine HM.out.mono ?_;rintro e w4 ⟨bx,bd,y,x,au0,r,rfl,F4,hbb,hM,hx,hL⟩;have H4:=hi2 F4 (aI hbb (aI hM (aI hx hL)));clear F4 hbb hM hx hL HM;go_wp2_with fail
 have hw:=HF3.out.size;refine bodyPost_ret (v:=.tuple #[.pointer (some ⟨w.heap.size+2,0,none⟩),B.ptr,cG0 bx]) sR rfl ?_;refine⟨B,bx,bd,y,x,r,by rw[HB.out.2.1],FrI.fr0 (dd0 H4.out.1) oM HF3.out,⟨hbase,nT hw H4.out.2.1.1,nT hw H4.out.2.1.2⟩,uy0 H4.out.2.2.1 H4.out.2.2.2.1,H4.out.2.2.2.1,H4.out.2.2.2.2.2.1.trans HG.out.1,fun k=>?_,H4.out.2.2.2.2.1.first.trans HG.out.2.2⟩
 ·rw[H4.out.2.2.2.2.2.2];exact HG.out.2.1 k

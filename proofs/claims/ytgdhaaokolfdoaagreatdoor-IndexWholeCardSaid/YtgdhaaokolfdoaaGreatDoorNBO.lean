/- A pack of texts. Conditions: those that each names. -/
import Derived.Test.YtgdhaaokolfdoaaGreatDoorNBN
set_option maxHeartbeats 16000000
set_option maxRecDepth 100000
set_option linter.all false
namespace Go.Proofs.YtgdhaaokolfdoaaGreatDoor
open Go.RowKit Go.Sg Go.Sg.Bits Go.Sg.r4 CP SF Tryz
def YS (w W:w9)(v:Value)(m:Nat):Prop:=∃ bs:List Int,((bs.length=m/\∀ x ∈ bs,0<=x/\x<256)/\W.ownsRow w 5 1 v m (bs.map (Value.int .u8)))/\Fq w W
variable {W W' w:w9}{v:Value}{b c m n off:Nat}{bs:List Int}
def YS.nil (F:Fq w W):YS w W (sL none 0 0) 0:=⟨[],⟨⟨rfl,by simp⟩,World.ownsRow_nil _ _ _ _⟩,F⟩
def xd0 (ho:W.ownsRow w 5 1 v m (bs.map (Value.int .u8)))(F:Fq w W)(hg:W.grownBy W' v.ownBlock):Fq w W':=
 F.trans (S':=fun b=>w<=b) ⟨hg.os,hg.tape,hg.output,hg.size,fun b hb hn=>hg.block b hb fun e=>hn (ho.lt b e.symm).1⟩ fun b hb h=>oM
def FJ {v':Value}{k:Nat}{ys:List Int}(hb:bs.length=m/\∀ x ∈ bs,0<=x/\x<256)(ho:W.ownsRow w 5 1 v m (bs.map (Value.int .u8)))(F:Fq w W)(hy:ys.length=k/\∀ x ∈ ys,0<=x/\x<256)
  (A0:W'.ownsRow w 5 1 v' (m+k) (bs.map (Value.int .u8)++ys.map (Value.int .u8))) (hg:W.grownBy W' v.ownBlock):YS w W' v' (m+k):=
 ⟨bs++ys,⟨⟨by simp[hb.1,hy.1],fun x hx=>(X5.1 hx).elim (hb.2 x) (hy.2 x)⟩,by rw[B9];exact A0⟩,xd0 ho F hg⟩
def LX (l:List Int):∀ u ∈ l.map (Value.int .u8),u.oneCell'=true:=by
 intro u hu;obtain⟨x,_,rfl⟩:=N4.1 hu;rfl
def lE0 (w:w9)(s:ByteArray):Fq w (Go.Lib.bytesWorld w 5 s):=
 ⟨rfl,rfl,rfl,by rw[Go.Lib.bytesWorld_size];omega,fun b hb _=>Go.Lib.bytesWorld_at_old w 5 s b hb⟩
def Gh (s:ByteArray):List Int:=s.data.toList.map fun b=>(b.toNat:Int)
def XW (s:ByteArray):(Gh s).length=s.size/\∀ x ∈ Gh s,0<=x/\x<256:=
 ⟨by rw[Gh,Z8];exact ow,fun x hx=>by obtain⟨b,_,rfl⟩:=N4.1 hx;have:=b.toNat_lt;omega⟩
def rf0 (W:w9)(s:ByteArray)(c:Nat):rx (Go.Lib.bytesWorld W 5 s) (sL W s.size c) s.size ((Gh s).map (Value.int .u8)):=
 ⟨_,c,rfl,.inr ⟨_,rfl,fun j u hj=>by
  have hjl:j<s.size:=by have:=(gI.1 hj).1;rw[Z8,(XW s).1] at this;exact this
  rw[kU,o8,Go.Lib.bytesWorld_cell W 5 s j hjl];rw[<- hj];have Vi:j<s.data.toList.length:=by rw[ow];exact hjl
  simp[Gh,List.getD,gE Vi]⟩⟩
def lenV (v:Value):Nat:=match v with | .slice _ m _=>m|_=>0
def Ak0 (w:w9)(e:Ending)(w':w9):Prop:=∃ (v:Value) (k:Int) (m:Nat),e = rT (tU #[v,iI k])/\m<=600/\YS w w' v m
def own_ne {B t:Nat}{xs:List Value}{c:Array Value}{f:Nat × Nat}(h:W.ownsRow B 5 1 v m xs)(hb:W.heap[b]?=some (.cells c t f))(ht:t≠5)(e:some b=v.ownBlock):False:=by
 obtain⟨_,⟨h0,_⟩|⟨g,cap,cur,h1,_,hg,_⟩⟩:=h
 .rw[h0] at e;cases e
 .rw[h1] at e;have e':b=g:=Option.some.inj e;subst e';rw[hg] at hb;cases hb;exact ht rfl
def BB {kd pl st:Int}{s:ByteArray}(h:W.heap[b]?=some (.cells #[iI kd,iI pl,iI st,.string s] 200)):W.cell? (aA b 1)=some (iI pl)/\W.cell? (aA b 2)=some (iI st)/\W.cell? (aA b 3)=some (.string s):=
 ⟨by simpa using G0 h 1,by simpa using G0 h 2,by simpa using G0 h 3⟩
def so0 (n:Nat)(kd pl st:Int)(s:ByteArray)(hn:96<=n/\n<=512)(hs:s.size<=n-19)(w:w9):cP 176 #[iI n,.agg #[iI kd,iI pl,iI st,.string s]] w (Ak0 w):=by
 obtain⟨j0,fK,cH,jz1,cI⟩:=info_parts B3;have E3:(s.size:Int)<=(n:Int)-19:=oM
 have hcv:=fun W=>Go.Lib.run_convert_string_bytes (P:=prog) W 9 22 5 s underlying9 underlying22 underlying5
 have HSn:=hid hn;rcases (show kd<1\/(1<=kd/\4<kd)\/((1<=kd/\kd<=4)/\pl<0)\/((1<=kd/\kd<=4)/\0<=pl/\2147483647<pl)\/((1<=kd/\kd<=4)/\(0<=pl/\pl<=2147483647)/\st<0)\/((1<=kd/\kd<=4)/\(0<=pl/\pl<=2147483647)/\0<=st) from by omega) with h|⟨h1,h⟩|⟨⟨h1,h2⟩,h⟩|⟨⟨h1,h2⟩,h3,h⟩|⟨⟨h1,h2⟩,⟨h3,h4⟩,h⟩|⟨⟨h1,h2⟩,⟨h3,h4⟩,h⟩
 iterate 5
  .go_enter func176,ntmps176;go_wp2_with fail
   go_ret2;exact⟨_,_,0,rfl,oM,YS.nil (fR.alloc _)⟩
 go_enter func176,ntmps176;go_wp2_with (go_at_call 232;(with_reducible refine (nF0 _ _).mono ?_))
 rintro e w1 ⟨v1,b1,rfl,vE,E5,F1⟩;have Zt:Fq w w1:=((Fr.refl _ w).alloc _).trans F1 nI;have tf:w1.heap[w.heap.size]?=some (.cells #[iI kd,iI pl,iI st,.string s] 200):=F1.heap (han _ _) id;have H1:=hi2 E5 (aI (ao vE (b':=w.heap.size) sP) Zt);have SV:=hid tf;obtain⟨c1,c2,c3⟩:=BB tf;clear E5 vE F1 Zt tf;have H1:=hid (show YS w w1 v1 1 from⟨b1,⟨H1.1,H1.2.1⟩,H1.2.2⟩);go_wp2_with (go_at_call 232;(with_reducible refine (nE0 _ _).mono ?_))
 rintro e w1' ⟨u1,y1,rfl,Lo,hy1,G1⟩;clear c1 c2 c3;obtain⟨bs,⟨U1,dO⟩,jz⟩:=H1.o;have Nv:=hi2 hy1 (wT Lo);have I3:=hi2 U1 (aI (K3 dO G1 fun _ _ _ h=>h) (jz.trans G1 nI));have NC:=hid (G1.heap SV.o id);clear Lo hy1 G1 U1 dO jz;go_wp2_with (at_builtin;refine mq rfl (.tmp 47) (.tmp 52) 22 rfl w.heap.size 5 j0 _ 1 1 underlying22 fK cH jz1 cI rfl dC _ _ _ rfl I3.2.1 _ _ _ rfl Nv.2 (by simp[Nv.1.1]) (LX _) (by simp[maxLen]) oM I3.2.2.size ?_)
 intro v2 w2 A0 dM hne;have H2:=hid (FJ I3.1 I3.2.1 I3.2.2 Nv.1 A0 dM);have jq:=hid (show w2.heap[w.heap.size]?=some (.cells #[iI kd,iI pl,iI st,.string s] 200) from (dM.block _ (M0 NC.o) fun e=>own_ne I3.2.1 NC.o dC e).trans NC.o);clear A0 dM hne SV NC I3 Nv H1;obtain⟨c1,c2,c3⟩:=BB jq.o;go_wp2_with (go_at_call 232;(with_reducible refine (iV0 _ _).mono ?_))
 rintro e w2' ⟨u2,y2,rfl,Lp,LA,G2⟩;clear c1 c2 c3;obtain⟨bs,⟨U1,dO⟩,jz⟩:=H2.o;have Nw:=hi2 LA (wT Lp);have bD:=hi2 U1 (aI (K3 dO G2 fun _ _ _ h=>h) (jz.trans G2 nI));have wG:=hid (G2.heap jq.o id);clear Lp LA G2 U1 dO jz;go_wp2_with (at_builtin;refine mq rfl (.tmp 54) (.tmp 58) 22 rfl w.heap.size 5 j0 _ 1 1 underlying22 fK cH jz1 cI rfl dC _ _ _ rfl bD.2.1 _ _ _ rfl Nw.2 (by simp[Nw.1.1]) (LX _) (by simp[maxLen]) oM bD.2.2.size ?_)
 intro v3 w3 A0 dM hne;have H3:=hid (FJ bD.1 bD.2.1 bD.2.2 Nw.1 A0 dM);have SW:=hid (show w3.heap[w.heap.size]?=some (.cells #[iI kd,iI pl,iI st,.string s] 200) from (dM.block _ (M0 wG.o) fun e=>own_ne bD.2.1 wG.o dC e).trans wG.o);clear A0 dM hne jq wG bD Nw H2;obtain⟨c1,c2,c3⟩:=BB SW.o;go_wp2_with (go_at_call 232;(with_reducible refine (nD0 _ _).mono ?_))
 rintro e w3' ⟨u3,y3,rfl,PI,hy3,G3⟩;clear c1 c2 c3;obtain⟨bs,⟨U1,dO⟩,jz⟩:=H3.o;have Nx:=hi2 hy3 (wT PI);have cN:=hi2 U1 (aI (K3 dO G3 fun _ _ _ h=>h) (jz.trans G3 nI));have Ew:=hid (G3.heap SW.o id);clear PI hy3 G3 U1 dO jz;go_wp2_with (at_builtin;refine mq rfl (.tmp 60) (.tmp 64) 22 rfl w.heap.size 5 j0 _ 1 1 underlying22 fK cH jz1 cI rfl dC _ _ _ rfl cN.2.1 _ _ _ rfl Nx.2 (by simp[Nx.1.1]) (LX _) (by simp[maxLen]) oM cN.2.2.size ?_)
 intro v4 w4 A0 dM hne;have H4:=hid (FJ cN.1 cN.2.1 cN.2.2 Nx.1 A0 dM);have HX4:=hid (show w4.heap[w.heap.size]?=some (.cells #[iI kd,iI pl,iI st,.string s] 200) from (dM.block _ (M0 Ew.o) fun e=>own_ne cN.2.1 Ew.o dC e).trans Ew.o);clear A0 dM hne SW Ew cN Nx H3;obtain⟨c1,c2,c3⟩:=BB HX4.o;obtain⟨bs,⟨U1,dO⟩,jz⟩:=H4.o;have T5:=hi2 U1 (aI (K3 dO (lE0 w4 s) fun _ _ _ h=>h) (jz.trans (lE0 w4 s) nI));clear U1 dO jz H4;have eL:=hid hs;go_wp2_with (at_builtin;refine mq rfl (.tmp 66) (.tmp 69) 22 rfl w.heap.size 5 j0 _ 1 1 underlying22 fK cH jz1 cI rfl dC _ _ _ rfl T5.2.1 _ _ _ rfl (rf0 _ _ _) (by simp[(XW s).1]) (LX _) (by have:=eL.o;have:=HSn.o;simp[maxLen];omega) (by have:=eL.o;have:=HSn.o;omega) T5.2.2.size ?_)
 intro v5 w5 A0 dM hne;have H5:=hid (FJ T5.1 T5.2.1 T5.2.2 (XW s) A0 dM);clear A0 dM hne T5 HX4 c1 c2 c3;go_wp2_with fail
 go_loopw [6] (fun v wr=>∃ (a:Option Addr) (m c:Nat),v = sL a m c/\m<=n-4/\YS w wr (sL a m c) m) fun v _=>n-lenV v
 case atStart =>
  obtain⟨bs,⟨U1,dO⟩,jz⟩:=H5.o;obtain⟨a,c,rfl,_⟩:=A2 dO;exact⟨a,_,c,rfl,oM,H5.o⟩
 case round =>
  obtain⟨a,m,c,rfl,hm,hY⟩:=hrel;obtain⟨bs,⟨U1,dO⟩,jz⟩:=hY;by_cases hlt:m<n-4
  .have hd:decide ((m:Int)<(n:Int)-4)=true:=decide_eq_true oM;have HR:=hi2 U1 (aI dO jz);have hsz:=jz.size;clear U1 dO jz;go_wp2_with (at_builtin;refine wpList_append_own_at _ rfl (.tmp 76) (.tmp 77) 22 rfl w.heap.size 5 j0 _ 1 1 underlying22 fK cH jz1 cI rfl dC _ _ _ rfl (HR.2.1.alloc _) ⟨wr,0,none⟩ 1 1 [_] rfl rfl (cell_one_new _ _ _) (by intro u hu;rw[mZ.1 hu];rfl) (by simp[maxLen];omega) oM sO ?_)
   intro v2 W2 N0 Q0 U7 cW;have H2:=hid (FJ (ys:=[0]) (k:=1) HR.1 (HR.2.1.alloc _) (HR.2.2.alloc _) ⟨rfl,by simp⟩ N0 Q0);clear N0 Q0 U7 cW HR;obtain⟨bs2,⟨UC,KD⟩,Ua⟩:=H2.o;obtain⟨a2,c2,rfl,_⟩:=A2 KD;clear KD UC Ua;go_wp2_with fail
   go_roundw;case rel=>exact⟨a2,m+1,c2,rfl,oM,H2.o⟩
   case measure=>simp[lenV];omega
  .obtain⟨q,hq⟩:=eX (n-4)
   obtain rfl:m=q:=oM
   have hd:decide ((m:Int)<(n:Int)-4)=false:=decide_eq_false oM;obtain⟨a',c',e',cZ⟩:=jc0 dO;cases e';have HR:=hi2 U1 (aI dO (aI jz cZ));clear U1 dO jz cZ;go_wp2_with (go_at_call 233;(with_reducible refine (sum_any HR.o.2.2.2.Y6 HR.o.1.2 oM).mono ?_))
   rintro _ _ ⟨z,rfl,hz,rfl⟩;go_wp2_with (go_at_call 232;(with_reducible refine (iV0 _ _).mono ?_))
   rintro e w6 ⟨u6,y6,rfl,hu6,hy6,G6⟩;have Ny:=hi2 hy6 (wT hu6);have vY:=hi2 HR.1 (aI (K3 HR.2.1 G6 fun _ _ _ h=>h) (HR.2.2.1.trans G6 nI));clear hu6 hy6 G6 HR;go_wp2_with (at_builtin;refine mq rfl (.tmp 81) (.tmp 84) 22 rfl w.heap.size 5 j0 _ 1 1 underlying22 fK cH jz1 cI rfl dC _ _ _ rfl vY.2.1 _ _ _ rfl Ny.2 (by simp[Ny.1.1]) (LX _) (by simp[maxLen];omega) oM vY.2.2.size ?_)
   intro v7 w7 A0 dM hne;have H7:=hid (FJ vY.1 vY.2.1 vY.2.2 Ny.1 A0 dM);clear A0 dM hne vY Ny;go_wp2_with fail
   go_ret2;exact⟨v7,0,_,rfl,oM,H7.o⟩
def Oh (b off n c lo hi:Nat)(h1:lo<=hi)(h2:hi<=c)(h3:lo<c)(W:w9):(Instr.slice 22 (sL (aP b off) n c) (some (iI lo)) (some (iI hi)) none).run prog W = .ok (sL (aP b (off+lo)) (hi-lo) (c-lo)) W:=by
 rw[run_slice_lh W 22 (some ⟨b,off,none⟩) n c kF .i64 .i64 lo hi oM oM oM];have hs:(sizeOf (prog.elem 22)).run prog W = .ok 1 W:=by kernel_rfl
 rw[hs];simp only[Result.andThen_ok,sliced,jK,Nat.mul_one];rw[if_neg oM];simp[addr_add]
def EH (h:T0 w (some ⟨b,off,none⟩) n c bs)(lo k:Nat)(hk:lo+k<=n):T0 w (some ⟨b,off+lo,none⟩) k (c-lo) ((bs.drop lo).take k):=by
 refine⟨⟨by rw[lT,ed,h.Y6.len];omega,fun i x hx=>?_⟩,?_⟩
 .rw[gT] at hx;split at hx
  .rw[jJ] at hx;obtain⟨b',off',e,hb,hc⟩:=h.Y6.at_ _ x hx;cases e;exact⟨b,off+lo,rfl,hb,by rw[qg];exact hc⟩
  .cases hx
 .rcases h.at_ with⟨h0,_,_⟩|⟨b',off',cs,e,h2⟩
  .cases h0
  .cases e;exact .inr ⟨b,off+lo,cs,rfl,h2⟩
def CI0 (w:w9)(e:Ending)(w':w9):Prop:=∃ (kd pl st k:Int) (s:ByteArray),e = rT (tU #[.agg #[iI kd,iI pl,iI st,.string s],iI k])/\Fq w w'
def wN0 (h:T0 w (some ⟨b,off,none⟩) n c bs)(O2:∀ x ∈ bs,0<=x/\x<256)(hn:96<=n/\n<=512)(hc:n<=c):cP 115 #[sL (aP b off) n c] w (CI0 w):=by
 have HB:=hi2 h O2
 have hm:∀ (lo k:Nat),∀ x ∈ (bs.drop lo).take k,0<=x/\x<256:=fun lo k x hx=>O2 x (xZ (ov hx))
 have HM:=hid hm;have s1:∀ W,(Instr.slice 22 (sL (aP b off) n c) (some (iI 1)) (some (iI 3)) none).run prog W = .ok (sL (aP b (off+1)) 2 (c-1)) W:=fun W=>Oh b off n c 1 3 oM oM oM W
 have s2:∀ W,(Instr.slice 22 (sL (aP b off) n c) (some (iI 7)) (some (iI 15)) none).run prog W = .ok (sL (aP b (off+7)) 8 (c-7)) W:=fun W=>Oh b off n c 7 15 oM oM oM W
 have s3:∀ W,(Instr.slice 22 (sL (aP b off) n c) (some (iI 3)) (some (iI 7)) none).run prog W = .ok (sL (aP b (off+3)) 4 (c-3)) W:=fun W=>Oh b off n c 3 7 oM oM oM W
 have yF:=hid ((Fr.refl (fun _=>False) w).alloc (.cells #[iI 0,iI 0,iI 0,.string ⟨#[]⟩] 200));have iy:=hid (h.fr yF.o fun _ _ _ h=>h);have hlt:=h.Y6.len;clear h O2 hm;go_enter func115,ntmps115;go_wp2_with (go_at_call 175;(with_reducible refine (QI (EH iy.o 1 2 oM).Y6 (HM.o _ _) oM).mono ?_))
 rintro _ _ ⟨z1,rfl,M1,rfl⟩;go_wp2_with (go_at_call 175;(with_reducible refine (QI (EH iy.o 7 8 oM).Y6 (HM.o _ _) oM).mono ?_))
 rintro _ _ ⟨z2,rfl,O1,rfl⟩;have xQ:z1<65536:=M1;have hz2':z2<18446744073709551616:=O1;clear M1 O1 s1 s2;by_cases hbad:((n:Int)-19<(z1:Int))\/(9223372036854775807<(z2:Int))
 .rcases (show ((n:Int)-19<(z1:Int))\/((z1:Int)<=(n:Int)-19/\9223372036854775807<(z2:Int)) from by omega) with h|⟨h,h'⟩
  all_goals
   go_wp2_with fail
   refine bodyPost_ret (v:=tU #[.agg #[iI 0,iI 0,iI 0,.string ⟨#[]⟩],iI 5]) sR rfl ⟨0,0,0,5,_,rfl,?_⟩;exact yF
 .have h1:(z1:Int)<=(n:Int)-19:=by omega
  have h2:(z2:Int)<=9223372036854775807:=oM
  have s4:∀ W,(Instr.slice 22 (sL (aP b off) n c) (some (iI 15)) (some (iI (15+(z1:Int)))) none).run prog W = .ok (sL (aP b (off+15)) z1 (c-15)) W:=fun W=>by
   have:=Oh b off n c 15 (15+z1) oM oM oM W;rw[show 15+z1-15=z1 from by omega] at this;exact this
  have s5:=uU (EH iy.o 15 z1 oM);obtain⟨x0,eF⟩:∃ x,bs[0]?=some x:=⟨_,gE oM⟩
  obtain⟨b',off',e',P4,mM⟩:=iy.Y6.at_ 0 x0 eF;cases e';rw[Nat.add_zero] at mM;go_upto_region 7 with fail
  obtain⟨W0,B4⟩:=xe (w.alloc (.cells #[iI 0,iI 0,iI 0,.string ⟨#[]⟩] 200))
  rw[<- B4] at yF iy mM P4 ⊢;have HW:=hid B4;have lI:0<n:=oM
  have hw15:IntKind.i64.wrap (15+(z1:Int))=15+(z1:Int):=by rw[IntKind.wrap_i64];omega
  clear s5 B4;have HC:=hid fun V (hV:Fq W0 V)=>aI (show V.cell? (aA b off)=some (.int .u8 x0) from (hV.cell (p:=⟨b,off,none⟩) P4 id).trans mM) (uU (EH (iy.fr hV fun _ _ _ h=>h) 15 z1 oM));have FG:=(Fr.refl (fun _=>False) W0).drew;refine wp_region_noPanic ?_;refine q8 (fun V=>Fq W0 V) (.rd 0 (.rd 1 (.rd 2 (.rd 3 (.rd 4 (.rd 5 (.rd 8 (.rd 9 (.rd 10 (.rd 11 (.rd 12 (.rd 13 (.rd 14 (.two 6 16 (.rd 7 (.rd 15 (.op 16 (.op 17 .done)))) (.op 6 (.rd 7 (.rd 15 (.op 17 .done)))))))))))))))))) kF kF kF (fun _ _ _ _ _ h=>h) FG ?_;iterate 13
   refine oP ?_ ?_ ?_;rotate_left
   .intro V hV;obtain⟨c0,c1⟩:=HC.o V hV;go_simp;try with_reducible rfl
  try simp only[Act.put,sI,sZ,sS]
  refine mu ?_ ?_;focus
   refine rQ fun K hK=>?_;refine (QI (EH (iy.fr FG fun _ _ _ h=>h) 3 4 oM).Y6 (HM _ _) oM).mono ?_;rintro _ _ ⟨z3,rfl,kK,rfl⟩;have Wp:z3<4294967296:=kK;clear kK;try go_simp
   refine hK _ _ FG ?_;clear hK K;iterate 2
    refine oP ?_ ?_ ?_;rotate_left
    .intro V hV;obtain⟨c0,c1⟩:=HC.o V hV;go_simp;try with_reducible rfl
   refine rQ fun K hK=>?_;have FG:=((Fr.refl (fun _=>False) W0).alloc (.cells #[iI 0,iI 0,iI 0,.string ⟨#[]⟩] 200)).drew;refine hK _ _ FG ?_;clear hK K;refine rQ fun K hK=>?_;have AD:=((Fr.refl (fun _=>False) W0).alloc (.cells #[iI (IntKind.i64.wrap x0),iI (IntKind.i64.wrap z3),iI (IntKind.i64.wrap z2),.string (strOfNums ((bs.drop 15).take z1))] 200)).drew;refine hK _ _ AD ?_;clear hK K;refine o5 ?_;refine NoPanic.normal ?_;try simp only[Act.put,sI,sZ,sS]
  rotate_left;focus
   refine rQ fun K hK=>?_;have FG:=((Fr.refl (fun _=>False) W0).alloc (.cells #[iI 0,iI 0,iI 0,.string ⟨#[]⟩] 200)).drew;refine hK _ _ FG ?_;clear hK K;refine rQ fun K hK=>?_;refine (QI (EH (iy.fr FG fun _ _ _ h=>h) 3 4 oM).Y6 (HM _ _) oM).mono ?_;rintro _ _ ⟨z3,rfl,kK,rfl⟩;have Wp:z3<4294967296:=kK;clear kK;try go_simp
   refine hK _ _ FG ?_;clear hK K;iterate 2
    refine oP ?_ ?_ ?_;rotate_left
    .intro V hV;obtain⟨c0,c1⟩:=HC.o V hV;go_simp;try with_reducible rfl
   refine rQ fun K hK=>?_;have AD:=((Fr.refl (fun _=>False) W0).alloc (.cells #[iI (IntKind.i64.wrap x0),iI (IntKind.i64.wrap z3),iI (IntKind.i64.wrap z2),.string (strOfNums ((bs.drop 15).take z1))] 200)).drew;refine hK _ _ AD ?_;clear hK K;refine o5 ?_;refine NoPanic.normal ?_;try simp only[Act.put,sI,sZ,sS]
  all_goals
   have hsz:(strOfNums ((bs.drop 15).take z1)).size<=n-19:=by
    have e:(strOfNums ((bs.drop 15).take z1)).size=((bs.drop 15).take z1).length:=(by simp[strOfNums,ByteArray.size]);rw[e,lT];omega
   have U3:((W0.alloc (.cells #[iI (IntKind.i64.wrap x0),iI (IntKind.i64.wrap z3),iI (IntKind.i64.wrap z2),.string (strOfNums ((bs.drop 15).take z1))] 200)).drew).heap[W0.heap.size]?=some (.cells #[iI (IntKind.i64.wrap x0),iI (IntKind.i64.wrap z3),iI (IntKind.i64.wrap z2),.string (strOfNums ((bs.drop 15).take z1))] 200):=han W0 _;have mW:W0.heap[w.heap.size]?=some (.cells #[iI 0,iI 0,iI 0,.string ⟨#[]⟩] 200):=by rw[HW];exact han w _
   have tR:=AD.heap mW id;have tg:=iy.fr AD fun _ _ _ h=>h;have E7:=yF.trans AD nI;have T7:w.heap.size<W0.heap.size:=M0 mW;obtain⟨str,Lh⟩:=eX (strOfNums ((bs.drop 15).take z1))
   obtain⟨kd,Fl⟩:=eX (IntKind.i64.wrap x0)
   obtain⟨pl,X9⟩:=eX (IntKind.i64.wrap (z3:Int))
   obtain⟨st,hst⟩:=eX (IntKind.i64.wrap (z2:Int))
   rw[Lh] at hsz U3 tR tg E7 ⊢;rw[Fl,X9,hst] at U3 tR tg E7 ⊢;obtain⟨W1,M2⟩:=xe ((W0.alloc (.cells #[iI kd,iI pl,iI st,.string str] 200)).drew)
   rw[<- M2] at U3 tR tg E7 ⊢;obtain⟨q,hq⟩:=eX W0.heap.size
   rw[hq] at U3 T7 ⊢;have HX:=hi2 U3 (aI tR (aI tg (aI E7 T7)));obtain⟨c1,c2,c3⟩:=BB U3;have c0:W1.cell? q=some (iI kd):=by simpa using G0 U3 0
   clear U3 mW tR tg E7 T7 Lh Fl X9 hst M2 hq AD FG HC mM P4 s3 s4;go_wp2_with (go_at_call 176;(with_reducible refine (so0 n kd pl st str hn hsz _).mono ?_))
   rintro e W2 ⟨v,k,m,rfl,hm,bs2,⟨L4,ho2⟩,F2⟩;obtain⟨a2,cc2,rfl,cZ⟩:=jc0 ho2;have k1:=uU cZ;have k2:=uU (HX.2.2.1.fr F2 fun _ _ _ h=>h);have U3:=F2.heap HX.1 id;have mW:=F2.heap HX.2.1 id;have F:=HX.2.2.2.1.trans F2 nI;have HE:=hi2 F (aI U3 mW);clear c0 c1 c2 c3;obtain⟨c1,c2,c3⟩:=BB U3;have c0:W2.cell? q=some (iI kd):=by simpa using G0 U3 0
   obtain⟨r1,r2,r3⟩:=BB mW;have r0:W2.cell? w=some (iI 0):=by simpa using G0 mW 0
   have g0:=X2 mW 0;have g1:=X2 mW 1;have g2:=X2 mW 2;have g3:=X2 mW 3;clear U3 mW F ho2 cZ L4 F2;go_wp2_with fail
   .refine bodyPost_ret (v:=tU #[.agg #[iI 0,iI 0,iI 0,.string ⟨#[]⟩],iI 5]) sR rfl ⟨_,_,_,_,_,rfl,?_⟩;exact (((HE.1.setCell (a:=⟨w,0,none⟩) (fun h=>absurd h (gG _)) _).setCell (a:=⟨w,1,none⟩) (fun h=>absurd h (gG _)) _).setCell (a:=⟨w,2,none⟩) (fun h=>absurd h (gG _)) _).setCell (a:=⟨w,3,none⟩) (fun h=>absurd h (gG _)) _
   .refine bodyPost_ret (v:=tU #[.agg #[iI kd,iI pl,iI st,.string str],iI 0]) sR rfl ⟨_,_,_,_,_,rfl,?_⟩;exact (((HE.1.setCell (a:=⟨w,0,none⟩) (fun h=>absurd h (gG _)) _).setCell (a:=⟨w,1,none⟩) (fun h=>absurd h (gG _)) _).setCell (a:=⟨w,2,none⟩) (fun h=>absurd h (gG _)) _).setCell (a:=⟨w,3,none⟩) (fun h=>absurd h (gG _)) _
   .refine bodyPost_ret (v:=tU #[.agg #[iI 0,iI 0,iI 0,.string ⟨#[]⟩],iI 5]) sR rfl ⟨_,_,_,_,_,rfl,?_⟩;exact (((HE.1.setCell (a:=⟨w,0,none⟩) (fun h=>absurd h (gG _)) _).setCell (a:=⟨w,1,none⟩) (fun h=>absurd h (gG _)) _).setCell (a:=⟨w,2,none⟩) (fun h=>absurd h (gG _)) _).setCell (a:=⟨w,3,none⟩) (fun h=>absurd h (gG _)) _

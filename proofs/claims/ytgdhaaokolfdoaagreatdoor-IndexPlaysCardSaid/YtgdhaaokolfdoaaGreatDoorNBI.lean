/- A pack of texts. Conditions: those that each names. -/
import Derived.Test.YtgdhaaokolfdoaaGreatDoorNBH
import Derived.Test.YtgdhaaokolfdoaaGreatDoorNBG
set_option linter.all false
namespace Go.Proofs.YtgdhaaokolfdoaaGreatDoor
section
open Go.RowKit Go.Sg Go.Sg.Bits Go.Sg.Clk CP SF
theorem po0 {E:Bt}(hh:E.hash<18446744073709551616)(h:aM0 E=true):gA0 E:=by
 simp[aM0] at h;exact⟨hh,⟨oM,oM⟩,⟨oM,oM⟩,⟨oM,oM⟩⟩
theorem df0 {y:Cs}{k:Nat}(h:y.dead k=false):y.commit.cont k=y.cont k:=by
 show (if y.dead k then none else y.cont k)=y.cont k;rw[h];rfl
theorem fC0.we0 {y:Cs}{x:aL0}{au0 slots:List Rf}(h:fC0 y x au0 slots)(hL:∀ k ∈ pgs x.rp au0,y.dead k=false):fC0 y.commit x au0 slots:=by
 have hz:=h.z;refine⟨⟨hz.most,hz.per,hz.fits,hz.room⟩,h.slen,h.tlen,⟨h.leaf.sr,h.leaf.tr,fun i r hi=>?_⟩,h.rr,?_⟩
 ·have hr:=(h.leaf.tr r (gM hi)).1;obtain⟨m,hm⟩:=iZ hr;rw[hm,df0 (hL m (by simp only[pgs,lA9,ld9];exact .inr ⟨r,gM hi,oM⟩)),<- hm];exact h.leaf.at_ i r hi
 ·obtain⟨m,hm⟩:=iZ h.rr.1;rw[hm,df0 (hL m (by simp only[pgs,lA9];exact .inl oM)),<- hm];exact h.root
section
variable {w w':World}{B:Blk}{bx bd:Nat}{y:Cs}{N:Nat}{x:aL0}{au0 slots:List Rf}{L:List Bp}{sp:Int}
end
section
variable {w0 V V':World}{base bs bv bx k:Nat}{t:Tr}
end
end
section
open Go.RowKit Go.Sg CP SF
end
section
open Go.RowKit Go.Sg Go.Sg.Bits Go.Sg.Clk CP SF
theorem fy0:∀ (t:Tr) (g k d p:Nat),t.high<=g->k<2^g->(bP0 t g d p)[k]?=some (t.at_ g k d p)
 | .leaf r es,g,k,d,p,_,hk=>by
  simp only[bP0,Tr.at_];rw[lF9,if_pos hk]
 | .node l r,g,k,d,p,h,hk=>by
  simp only[Tr.high] at h;have h2:=Tr.ce0 (g:=g) oM;simp only[bP0,Tr.at_];have hl:=cI0 l (g-1) (d+1) (2*p) oM;by_cases hlt:k<2^(g-1)
  ·rw[if_pos hlt,lh9 oM];exact fy0 l _ _ _ _ oM hlt
  ·rw[if_neg hlt,lk9 oM,hl];exact fy0 r _ _ _ _ oM oM
theorem bz0:∀ (t:Tr) (g:Nat) (r:Rf),t.high<=g->(r ∈ t.slots g↔r ∈ t.refs)
 | .leaf q es,g,r,_=>by
  have:=lW9 (n:=g) (show 0<2 by decide);simp only[Tr.slots,Tr.refs,List.mem_replicate,lQ9];constructor
  ·exact fun h=>h.2
  ·exact fun h=>⟨oM,h⟩
 | .node l r',g,r,h=>by
  simp only[Tr.high] at h;simp only[Tr.slots,Tr.refs,lb9];rw[bz0 l (g-1) r oM,bz0 r' (g-1) r oM]
theorem sQ0 {t:Tr}{g:Nat}{L:List Bp}(h:t.high<=g)(hP:L.Perm (lds t 0 0))(r:Rf):r ∈ t.slots g↔∃ q ∈ L,q.1=r:=by
 rw[bz0 t g r h,<- gm0 t 0 0,ld9];constructor
 ·rintro⟨s,hs,rfl⟩;exact⟨_,vP0 hP hs,rfl⟩
 ·rintro⟨q,hq,rfl⟩;rw[hP.mem_iff,fb0,ld9] at hq;obtain⟨s,hs,rfl⟩:=hq;exact⟨s,hs,rfl⟩
section
variable {w w':World}{B:Blk}{bx bd:Nat}{y:Cs}{P:aQ0}{a:Bool}{N:Nat}{x:aL0}{au0 slots:List Rf}{L:List Bp}{sp:Int}
end
section
variable {w0 V V':World}{base bs bv bx k:Nat}{t:Tr}

import Derived.Test.YtpdhceiodgnbmaaGreatDoorF0FollowsSaid
import Derived.Test.YtpdhceiodgnbmaaGreatDoorF1FollowsSaid
import Derived.Test.YtpdhceiodgnbmaaGreatDoorF36FollowsSaid
set_option linter.unusedVariables false
set_option linter.unusedSimpArgs false
set_option linter.unnecessarySimpa false
set_option maxRecDepth 100000
set_option maxHeartbeats 8000000
namespace Go.Proofs.YtpdhceiodgnbmaaGreatDoor
open Go.RowKit
theorem XN(s:ByteArray):s=⟨#[]⟩↔s.size=0:=by
 constructor
 ·intro h;rw[h];rfl
 ·intro h
  apply J4
  exact List.length_eq_zero_iff.1 (by simpa using h)
theorem bz1(x:Rc)(hk:x.kind=1):x.bare=Rc.zero↔x.id=0/\x.way=0/\x.index=0/\x.verdict=0:=by
 unfold Rc.bare
 rw[if_pos hk]
 unfold Rc.zero
 simp only[Rc.mk.injEq,XN,true_and,and_true]
theorem bz2(x:Rc)(hk:x.kind=2):x.bare=Rc.zero↔x.name.size=0/\x.p=P6.zero/\x.root=z32/\x.file=z32/\x.verdict=0:=by
 unfold Rc.bare
 rw[if_neg oX,if_pos hk]
 unfold Rc.zero
 simp only[Rc.mk.injEq,XN,true_and,and_true]
theorem bz3(x:Rc)(hk:x.kind=3):x.bare=Rc.zero↔x.name.size=0/\x.p=P6.zero/\x.root=z32/\x.file=z32/\x.way=0/\x.index=0:=by
 unfold Rc.bare
 rw[if_neg oX,if_neg oX,if_pos hk]
 unfold Rc.zero
 simp only[Rc.mk.injEq,XN,true_and,and_true]
theorem bz4(x:Rc)(hk:x.kind=4):x.bare=Rc.zero↔x.name.size=0/\x.p=P6.zero/\x.root=z32/\x.file=z32/\x.verdict=0/\x.way=0/\x.index=0/\x.id=0:=by
 unfold Rc.bare
 rw[if_neg oX,if_neg oX,if_neg oX]
 unfold Rc.zero
 simp only[Rc.mk.injEq,XN,true_and,and_true]
 constructor<;>(intro h;simp_all)
theorem Tk(x:Rc)(hx:x.Ok)(hk:x.kind=1)(w:World):Calls Tryz.prog 44 #[.agg x.list.toArray] w λe w2=>e=.returned (.int .i64 (x.chk:Int))/\Below w.heap.size w w2:=by
 have hs:=Rc.size hx
 have hF:RcF x.list.toArray x.p.list (cB x.root) (cB x.file) x.kind x.obj x.id x.name x.way x.index x.verdict x.tick:=@Rc.facts x hx
 rw[hk] at hF
 have hP:Hid (x.p.list.toArray=x.p.list.toArray):=Hd rfl
 have hD:Hid ((cB x.root).toArray=(cB x.root).toArray):=Hd rfl
 have hE:Hid ((cB x.file).toArray=(cB x.file).toArray):=Hd rfl
 have i4:(Tryz.prog.info? 52).map (·.size)=some x.p.list.length:=by rw[P6.len];kernel_rfl
 have i5:(Tryz.prog.info? 46).map (·.size)=some (cB x.root).length:=by rw[Zd,hx.root];kernel_rfl
 have i6:(Tryz.prog.info? 46).map (·.size)=some (cB x.file).length:=by rw[Zd,hx.file];kernel_rfl
 have hbp:=λW=>Jk x.p P6.zero hx.p ⟨dX,dX,dX,dX,dX,dX⟩ W
 have hbr:=λW=>Yo x.root z32 hx.root Qa W
 have hbf:=λW=>Yo x.file z32 hx.file Qa W
 have hlab:=Hd (λW=>Xv x.name W (Nat.le_trans hx.name dX))
 by_cases h_o:(inB x.obj 0 1099511627776)=false
 ·have hn:x.nums=false:=by unfold Rc.nums Zp;rw[hk];simp[inB] at h_o ⊢;omega
  have hc:x.chk=1:=by unfold Rc.chk;rw[if_neg oX,if_pos hn]
  rw[hc]
  exact QB w _ _ _ _ _ _ _ x.obj x.id x.way x.index x.verdict x.tick x.name _ rfl _ _ _ _ hs hF hP hD hE i4 i5 i6 hbp hbr hbf hlab _ (.inl ⟨h_o,rfl⟩)
 replace h_o:(inB x.obj 0 1099511627776)=true:=by simpa using h_o
 by_cases h_t:(inB x.tick 0 1099511627776)=false
 ·have hn:x.nums=false:=by unfold Rc.nums Zp;rw[hk];simp[inB] at h_o h_t ⊢;omega
  have hc:x.chk=1:=by unfold Rc.chk;rw[if_neg oX,if_pos hn]
  rw[hc]
  exact QB w _ _ _ _ _ _ _ x.obj x.id x.way x.index x.verdict x.tick x.name _ rfl _ _ _ _ hs hF hP hD hE i4 i5 i6 hbp hbr hbf hlab _ (.inr (.inl ⟨h_o,h_t,rfl⟩))
 replace h_t:(inB x.tick 0 1099511627776)=true:=by simpa using h_t
 by_cases h_lab:(Yp x.name.data.toList)=false
 ·have hn:x.nums=true:=by unfold Rc.nums Zp;rw[hk];simp[inB] at h_o h_t ⊢;omega
  have hc:x.chk=6:=by unfold Rc.chk;rw[if_neg oX,if_neg (by rw[hn];decide),if_pos hk,if_pos h_lab]
  rw[hc]
  exact QB w _ _ _ _ _ _ _ x.obj x.id x.way x.index x.verdict x.tick x.name _ rfl _ _ _ _ hs hF hP hD hE i4 i5 i6 hbp hbr hbf hlab _ (.inr (.inr (.inl ⟨h_o,h_t,h_lab,rfl⟩)))
 replace h_lab:(Yp x.name.data.toList)=true:=by simpa using h_lab
 have hr:=λW=>NW x.p.s x.p.n x.p.k x.p.d x.p.t x.p.r W
 cases hbd:Qp x.p.s x.p.n x.p.k x.p.d x.p.t x.p.r with
 | some q=>
  obtain⟨F,V,i⟩:=q
  rw[hbd] at hr
  have hn:x.nums=true:=by unfold Rc.nums Zp;rw[hk];simp[inB] at h_o h_t ⊢;omega
  have hc:x.chk=i+1:=by unfold Rc.chk;rw[if_neg oX,if_neg (by rw[hn];decide),if_pos hk,if_neg (by rw[h_lab];decide),hbd]
  rw[hc]
  exact QB w _ _ _ _ _ _ _ x.obj x.id x.way x.index x.verdict x.tick x.name _ rfl _ _ _ _ hs hF hP hD hE i4 i5 i6 hbp hbr hbf hlab _ (.inr (.inr (.inr (.inl ⟨h_o,h_t,h_lab,Hd (λW=>(hr W).mono λe w2 h=>⟨F,V,h⟩),sY⟩))))
 | none=>
  rw[hbd] at hr
  have hpar:=Hd (λW=>(hr W).mono λe w2 h=>(⟨_,_,h⟩:∃ F V,e=.returned (.tuple #[.string F,.int .i64 V,.int .i64 0])/\Below W.heap.size W w2))
  by_cases h_zi:(x.id != 0)=true
  ·have hn:x.nums=true:=by unfold Rc.nums Zp;rw[hk];simp[inB] at h_o h_t ⊢;omega
   have hz:¬x.bare=Rc.zero:=λh=>by have h:=(bz1 x hk).1 h;simp[h.1] at h_zi
   have hc:x.chk=4:=by unfold Rc.chk;rw[if_neg oX,if_neg (by rw[hn];decide),if_pos hk,if_neg (by rw[h_lab];decide),hbd];exact if_neg hz
   rw[hc]
   exact QB w _ _ _ _ _ _ _ x.obj x.id x.way x.index x.verdict x.tick x.name _ rfl _ _ _ _ hs hF hP hD hE i4 i5 i6 hbp hbr hbf hlab _ (.inr (.inr (.inr (.inr (.inl ⟨h_o,h_t,h_lab,hpar,h_zi,(by simpa using h_zi),rfl⟩)))))
  replace h_zi:(x.id != 0)=false:=by simpa using h_zi
  by_cases h_zw:(x.way != 0)=true
  ·have hn:x.nums=true:=by unfold Rc.nums Zp;rw[hk];simp[inB] at h_o h_t ⊢;omega
   have hz:¬x.bare=Rc.zero:=λh=>by have h:=(bz1 x hk).1 h;simp[h.2.1] at h_zw
   have hc:x.chk=4:=by unfold Rc.chk;rw[if_neg oX,if_neg (by rw[hn];decide),if_pos hk,if_neg (by rw[h_lab];decide),hbd];exact if_neg hz
   rw[hc]
   exact QB w _ _ _ _ _ _ _ x.obj x.id x.way x.index x.verdict x.tick x.name _ rfl _ _ _ _ hs hF hP hD hE i4 i5 i6 hbp hbr hbf hlab _ (.inr (.inr (.inr (.inr (.inr (.inl ⟨h_o,h_t,h_lab,hpar,h_zi,(by simpa using h_zi),h_zw,(by simpa using h_zw),rfl⟩))))))
  replace h_zw:(x.way != 0)=false:=by simpa using h_zw
  by_cases h_zx:(x.index != 0)=true
  ·have hn:x.nums=true:=by unfold Rc.nums Zp;rw[hk];simp[inB] at h_o h_t ⊢;omega
   have hz:¬x.bare=Rc.zero:=λh=>by have h:=(bz1 x hk).1 h;simp[h.2.2.1] at h_zx
   have hc:x.chk=4:=by unfold Rc.chk;rw[if_neg oX,if_neg (by rw[hn];decide),if_pos hk,if_neg (by rw[h_lab];decide),hbd];exact if_neg hz
   rw[hc]
   exact QB w _ _ _ _ _ _ _ x.obj x.id x.way x.index x.verdict x.tick x.name _ rfl _ _ _ _ hs hF hP hD hE i4 i5 i6 hbp hbr hbf hlab _ (.inr (.inr (.inr (.inr (.inr (.inr (.inl ⟨h_o,h_t,h_lab,hpar,h_zi,(by simpa using h_zi),h_zw,(by simpa using h_zw),h_zx,(by simpa using h_zx),rfl⟩)))))))
  replace h_zx:(x.index != 0)=false:=by simpa using h_zx
  by_cases h_zv:(x.verdict != 0)=true
  ·have hn:x.nums=true:=by unfold Rc.nums Zp;rw[hk];simp[inB] at h_o h_t ⊢;omega
   have hz:¬x.bare=Rc.zero:=λh=>by have h:=(bz1 x hk).1 h;simp[h.2.2.2] at h_zv
   have hc:x.chk=4:=by unfold Rc.chk;rw[if_neg oX,if_neg (by rw[hn];decide),if_pos hk,if_neg (by rw[h_lab];decide),hbd];exact if_neg hz
   rw[hc]
   exact QB w _ _ _ _ _ _ _ x.obj x.id x.way x.index x.verdict x.tick x.name _ rfl _ _ _ _ hs hF hP hD hE i4 i5 i6 hbp hbr hbf hlab _ (.inr (.inr (.inr (.inr (.inr (.inr (.inr (.inl ⟨h_o,h_t,h_lab,hpar,h_zi,(by simpa using h_zi),h_zw,(by simpa using h_zw),h_zx,(by simpa using h_zx),h_zv,(by simpa using h_zv),rfl⟩))))))))
  replace h_zv:(x.verdict != 0)=false:=by simpa using h_zv
  have hn:x.nums=true:=by unfold Rc.nums Zp;rw[hk];simp[inB] at h_o h_t ⊢;omega
  have hz:x.bare=Rc.zero:=(bz1 x hk).2 ⟨by simpa using h_zi,by simpa using h_zw,by simpa using h_zx,by simpa using h_zv⟩
  have hc:x.chk=0:=by unfold Rc.chk;rw[if_neg oX,if_neg (by rw[hn];decide),if_pos hk,if_neg (by rw[h_lab];decide),hbd];exact if_pos hz
  rw[hc]
  exact QB w _ _ _ _ _ _ _ x.obj x.id x.way x.index x.verdict x.tick x.name _ rfl _ _ _ _ hs hF hP hD hE i4 i5 i6 hbp hbr hbf hlab _ (.inr (.inr (.inr (.inr (.inr (.inr (.inr (.inr (⟨h_o,h_t,h_lab,hpar,h_zi,(by simpa using h_zi),h_zw,(by simpa using h_zw),h_zx,(by simpa using h_zx),h_zv,(by simpa using h_zv),rfl⟩)))))))))
theorem Hw(x:Rc)(hx:x.Ok)(hk:x.kind=2)(w:World):Calls Tryz.prog 44 #[.agg x.list.toArray] w λe w2=>e=.returned (.int .i64 (x.chk:Int))/\Below w.heap.size w w2:=by
 have hs:=Rc.size hx
 have hF:RcF x.list.toArray x.p.list (cB x.root) (cB x.file) x.kind x.obj x.id x.name x.way x.index x.verdict x.tick:=@Rc.facts x hx
 rw[hk] at hF
 have hP:Hid (x.p.list.toArray=x.p.list.toArray):=Hd rfl
 have hD:Hid ((cB x.root).toArray=(cB x.root).toArray):=Hd rfl
 have hE:Hid ((cB x.file).toArray=(cB x.file).toArray):=Hd rfl
 have i4:(Tryz.prog.info? 52).map (·.size)=some x.p.list.length:=by rw[P6.len];kernel_rfl
 have i5:(Tryz.prog.info? 46).map (·.size)=some (cB x.root).length:=by rw[Zd,hx.root];kernel_rfl
 have i6:(Tryz.prog.info? 46).map (·.size)=some (cB x.file).length:=by rw[Zd,hx.file];kernel_rfl
 have hbp:=λW=>Jk x.p P6.zero hx.p ⟨dX,dX,dX,dX,dX,dX⟩ W
 have hbr:=λW=>Yo x.root z32 hx.root Qa W
 have hbf:=λW=>Yo x.file z32 hx.file Qa W
 have hlab:=Hd (λW=>Xv x.name W (Nat.le_trans hx.name dX))
 by_cases h_o:(inB x.obj 0 1099511627776)=false
 ·have hn:x.nums=false:=by unfold Rc.nums Zp;rw[hk];simp[inB] at h_o ⊢;omega
  have hc:x.chk=1:=by unfold Rc.chk;rw[if_neg oX,if_pos hn]
  rw[hc]
  exact ZY w _ _ _ _ _ _ _ x.obj x.id x.way x.index x.verdict x.tick x.name _ rfl _ _ _ _ hs hF hP hD hE i4 i5 i6 hbp hbr hbf hlab _ (.inl ⟨h_o,rfl⟩)
 replace h_o:(inB x.obj 0 1099511627776)=true:=by simpa using h_o
 by_cases h_t:(inB x.tick 0 1099511627776)=false
 ·have hn:x.nums=false:=by unfold Rc.nums Zp;rw[hk];simp[inB] at h_o h_t ⊢;omega
  have hc:x.chk=1:=by unfold Rc.chk;rw[if_neg oX,if_pos hn]
  rw[hc]
  exact ZY w _ _ _ _ _ _ _ x.obj x.id x.way x.index x.verdict x.tick x.name _ rfl _ _ _ _ hs hF hP hD hE i4 i5 i6 hbp hbr hbf hlab _ (.inr (.inl ⟨h_o,h_t,rfl⟩))
 replace h_t:(inB x.tick 0 1099511627776)=true:=by simpa using h_t
 by_cases h_i:(inB x.id 0 1099511627776)=false
 ·have hn:x.nums=false:=by unfold Rc.nums Zp;rw[hk];simp[inB] at h_o h_t h_i ⊢;omega
  have hc:x.chk=1:=by unfold Rc.chk;rw[if_neg oX,if_pos hn]
  rw[hc]
  exact ZY w _ _ _ _ _ _ _ x.obj x.id x.way x.index x.verdict x.tick x.name _ rfl _ _ _ _ hs hF hP hD hE i4 i5 i6 hbp hbr hbf hlab _ (.inr (.inr (.inl ⟨h_o,h_t,h_i,rfl⟩)))
 replace h_i:(inB x.id 0 1099511627776)=true:=by simpa using h_i
 by_cases h_w1:(decide (x.way<1))=true
 ·have hn:x.nums=false:=by unfold Rc.nums Zp;rw[hk];simp[inB] at h_o h_t h_i h_w1 ⊢;omega
  have hc:x.chk=1:=by unfold Rc.chk;rw[if_neg oX,if_pos hn]
  rw[hc]
  exact ZY w _ _ _ _ _ _ _ x.obj x.id x.way x.index x.verdict x.tick x.name _ rfl _ _ _ _ hs hF hP hD hE i4 i5 i6 hbp hbr hbf hlab _ (.inr (.inr (.inr (.inl ⟨h_o,h_t,h_i,h_w1,rfl⟩))))
 replace h_w1:(decide (x.way<1))=false:=by simpa using h_w1
 by_cases h_w2:(decide (2<x.way))=true
 ·have hn:x.nums=false:=by unfold Rc.nums Zp;rw[hk];simp[inB] at h_o h_t h_i h_w1 h_w2 ⊢;omega
  have hc:x.chk=1:=by unfold Rc.chk;rw[if_neg oX,if_pos hn]
  rw[hc]
  exact ZY w _ _ _ _ _ _ _ x.obj x.id x.way x.index x.verdict x.tick x.name _ rfl _ _ _ _ hs hF hP hD hE i4 i5 i6 hbp hbr hbf hlab _ (.inr (.inr (.inr (.inr (.inl ⟨h_o,h_t,h_i,h_w1,h_w2,rfl⟩)))))
 replace h_w2:(decide (2<x.way))=false:=by simpa using h_w2
 by_cases h_x1:(decide (x.index<0))=true
 ·have hn:x.nums=false:=by unfold Rc.nums Zp;rw[hk];simp[inB] at h_o h_t h_i h_w1 h_w2 h_x1 ⊢;omega
  have hc:x.chk=1:=by unfold Rc.chk;rw[if_neg oX,if_pos hn]
  rw[hc]
  exact ZY w _ _ _ _ _ _ _ x.obj x.id x.way x.index x.verdict x.tick x.name _ rfl _ _ _ _ hs hF hP hD hE i4 i5 i6 hbp hbr hbf hlab _ (.inr (.inr (.inr (.inr (.inr (.inl ⟨h_o,h_t,h_i,h_w1,h_w2,h_x1,rfl⟩))))))
 replace h_x1:(decide (x.index<0))=false:=by simpa using h_x1
 by_cases h_x2:(decide (1048576<x.index))=true
 ·have hn:x.nums=false:=by unfold Rc.nums Zp;rw[hk];simp[inB] at h_o h_t h_i h_w1 h_w2 h_x1 h_x2 ⊢;omega
  have hc:x.chk=1:=by unfold Rc.chk;rw[if_neg oX,if_pos hn]
  rw[hc]
  exact ZY w _ _ _ _ _ _ _ x.obj x.id x.way x.index x.verdict x.tick x.name _ rfl _ _ _ _ hs hF hP hD hE i4 i5 i6 hbp hbr hbf hlab _ (.inr (.inr (.inr (.inr (.inr (.inr (.inl ⟨h_o,h_t,h_i,h_w1,h_w2,h_x1,h_x2,rfl⟩)))))))
 replace h_x2:(decide (1048576<x.index))=false:=by simpa using h_x2
 by_cases h_nm:(decide (0<(x.name.size:Int)))=true
 ·have hn:x.nums=true:=by unfold Rc.nums Zp;rw[hk];simp[inB] at h_o h_t h_i h_w1 h_w2 h_x1 h_x2 ⊢;omega
  have hz:¬x.bare=Rc.zero:=λh=>by have h:=(bz2 x hk).1 h;simp[h.1] at h_nm
  have hc:x.chk=4:=by unfold Rc.chk;rw[if_neg oX,if_neg (by rw[hn];decide),if_neg oX,if_neg hz]
  rw[hc]
  exact ZY w _ _ _ _ _ _ _ x.obj x.id x.way x.index x.verdict x.tick x.name _ rfl _ _ _ _ hs hF hP hD hE i4 i5 i6 hbp hbr hbf hlab _ (.inr (.inr (.inr (.inr (.inr (.inr (.inr (.inl ⟨h_o,h_t,h_i,h_w1,h_w2,h_x1,h_x2,h_nm,rfl⟩))))))))
 replace h_nm:(decide (0<(x.name.size:Int)))=false:=by simpa using h_nm
 by_cases h_pz:(!decide (x.p=P6.zero))=true
 ·have hn:x.nums=true:=by unfold Rc.nums Zp;rw[hk];simp[inB] at h_o h_t h_i h_w1 h_w2 h_x1 h_x2 ⊢;omega
  have hz:¬x.bare=Rc.zero:=λh=>by have h:=(bz2 x hk).1 h;simp[h.2.1] at h_pz
  have hc:x.chk=4:=by unfold Rc.chk;rw[if_neg oX,if_neg (by rw[hn];decide),if_neg oX,if_neg hz]
  rw[hc]
  exact ZY w _ _ _ _ _ _ _ x.obj x.id x.way x.index x.verdict x.tick x.name _ rfl _ _ _ _ hs hF hP hD hE i4 i5 i6 hbp hbr hbf hlab _ (.inr (.inr (.inr (.inr (.inr (.inr (.inr (.inr (.inl ⟨h_o,h_t,h_i,h_w1,h_w2,h_x1,h_x2,h_nm,h_pz,rfl⟩)))))))))
 replace h_pz:(!decide (x.p=P6.zero))=false:=by simpa using h_pz
 by_cases h_rz:(!decide (x.root=z32))=true
 ·have hn:x.nums=true:=by unfold Rc.nums Zp;rw[hk];simp[inB] at h_o h_t h_i h_w1 h_w2 h_x1 h_x2 ⊢;omega
  have hz:¬x.bare=Rc.zero:=λh=>by have h:=(bz2 x hk).1 h;simp[h.2.2.1] at h_rz
  have hc:x.chk=4:=by unfold Rc.chk;rw[if_neg oX,if_neg (by rw[hn];decide),if_neg oX,if_neg hz]
  rw[hc]
  exact ZY w _ _ _ _ _ _ _ x.obj x.id x.way x.index x.verdict x.tick x.name _ rfl _ _ _ _ hs hF hP hD hE i4 i5 i6 hbp hbr hbf hlab _ (.inr (.inr (.inr (.inr (.inr (.inr (.inr (.inr (.inr (.inl ⟨h_o,h_t,h_i,h_w1,h_w2,h_x1,h_x2,h_nm,h_pz,h_rz,rfl⟩))))))))))
 replace h_rz:(!decide (x.root=z32))=false:=by simpa using h_rz
 by_cases h_fz:(!decide (x.file=z32))=true
 ·have hn:x.nums=true:=by unfold Rc.nums Zp;rw[hk];simp[inB] at h_o h_t h_i h_w1 h_w2 h_x1 h_x2 ⊢;omega
  have hz:¬x.bare=Rc.zero:=λh=>by have h:=(bz2 x hk).1 h;simp[h.2.2.2.1] at h_fz
  have hc:x.chk=4:=by unfold Rc.chk;rw[if_neg oX,if_neg (by rw[hn];decide),if_neg oX,if_neg hz]
  rw[hc]
  exact ZY w _ _ _ _ _ _ _ x.obj x.id x.way x.index x.verdict x.tick x.name _ rfl _ _ _ _ hs hF hP hD hE i4 i5 i6 hbp hbr hbf hlab _ (.inr (.inr (.inr (.inr (.inr (.inr (.inr (.inr (.inr (.inr (.inl ⟨h_o,h_t,h_i,h_w1,h_w2,h_x1,h_x2,h_nm,h_pz,h_rz,h_fz,rfl⟩)))))))))))
 replace h_fz:(!decide (x.file=z32))=false:=by simpa using h_fz
 by_cases h_zv:(x.verdict != 0)=true
 ·have hn:x.nums=true:=by unfold Rc.nums Zp;rw[hk];simp[inB] at h_o h_t h_i h_w1 h_w2 h_x1 h_x2 ⊢;omega
  have hz:¬x.bare=Rc.zero:=λh=>by have h:=(bz2 x hk).1 h;simp[h.2.2.2.2] at h_zv
  have hc:x.chk=4:=by unfold Rc.chk;rw[if_neg oX,if_neg (by rw[hn];decide),if_neg oX,if_neg hz]
  rw[hc]
  exact ZY w _ _ _ _ _ _ _ x.obj x.id x.way x.index x.verdict x.tick x.name _ rfl _ _ _ _ hs hF hP hD hE i4 i5 i6 hbp hbr hbf hlab _ (.inr (.inr (.inr (.inr (.inr (.inr (.inr (.inr (.inr (.inr (.inr (.inl ⟨h_o,h_t,h_i,h_w1,h_w2,h_x1,h_x2,h_nm,h_pz,h_rz,h_fz,h_zv,(by simpa using h_zv),rfl⟩))))))))))))
 replace h_zv:(x.verdict != 0)=false:=by simpa using h_zv
 have hn:x.nums=true:=by unfold Rc.nums Zp;rw[hk];simp[inB] at h_o h_t h_i h_w1 h_w2 h_x1 h_x2 ⊢;omega
 have hz:x.bare=Rc.zero:=(bz2 x hk).2 ⟨by have h:=h_nm;simp only[decide_eq_false_iff_not] at h;omega,by simpa using h_pz,by simpa using h_rz,by simpa using h_fz,by simpa using h_zv⟩
 have hc:x.chk=0:=by unfold Rc.chk;rw[if_neg oX,if_neg (by rw[hn];decide),if_neg oX,if_pos hz]
 rw[hc]
 exact ZY w _ _ _ _ _ _ _ x.obj x.id x.way x.index x.verdict x.tick x.name _ rfl _ _ _ _ hs hF hP hD hE i4 i5 i6 hbp hbr hbf hlab _ (.inr (.inr (.inr (.inr (.inr (.inr (.inr (.inr (.inr (.inr (.inr (.inr (⟨h_o,h_t,h_i,h_w1,h_w2,h_x1,h_x2,h_nm,h_pz,h_rz,h_fz,h_zv,(by simpa using h_zv),rfl⟩)))))))))))))
theorem Hx(x:Rc)(hx:x.Ok)(hk:x.kind=3)(w:World):Calls Tryz.prog 44 #[.agg x.list.toArray] w λe w2=>e=.returned (.int .i64 (x.chk:Int))/\Below w.heap.size w w2:=by
 have hs:=Rc.size hx
 have hF:RcF x.list.toArray x.p.list (cB x.root) (cB x.file) x.kind x.obj x.id x.name x.way x.index x.verdict x.tick:=@Rc.facts x hx
 rw[hk] at hF
 have hP:Hid (x.p.list.toArray=x.p.list.toArray):=Hd rfl
 have hD:Hid ((cB x.root).toArray=(cB x.root).toArray):=Hd rfl
 have hE:Hid ((cB x.file).toArray=(cB x.file).toArray):=Hd rfl
 have i4:(Tryz.prog.info? 52).map (·.size)=some x.p.list.length:=by rw[P6.len];kernel_rfl
 have i5:(Tryz.prog.info? 46).map (·.size)=some (cB x.root).length:=by rw[Zd,hx.root];kernel_rfl
 have i6:(Tryz.prog.info? 46).map (·.size)=some (cB x.file).length:=by rw[Zd,hx.file];kernel_rfl
 have hbp:=λW=>Jk x.p P6.zero hx.p ⟨dX,dX,dX,dX,dX,dX⟩ W
 have hbr:=λW=>Yo x.root z32 hx.root Qa W
 have hbf:=λW=>Yo x.file z32 hx.file Qa W
 have hlab:=Hd (λW=>Xv x.name W (Nat.le_trans hx.name dX))
 by_cases h_o:(inB x.obj 0 1099511627776)=false
 ·have hn:x.nums=false:=by unfold Rc.nums Zp;rw[hk];simp[inB] at h_o ⊢;omega
  have hc:x.chk=1:=by unfold Rc.chk;rw[if_neg oX,if_pos hn]
  rw[hc]
  exact Qg w _ _ _ _ _ _ _ x.obj x.id x.way x.index x.verdict x.tick x.name _ rfl _ _ _ _ hs hF hP hD hE i4 i5 i6 hbp hbr hbf hlab _ (.inl ⟨h_o,rfl⟩)
 replace h_o:(inB x.obj 0 1099511627776)=true:=by simpa using h_o
 by_cases h_t:(inB x.tick 0 1099511627776)=false
 ·have hn:x.nums=false:=by unfold Rc.nums Zp;rw[hk];simp[inB] at h_o h_t ⊢;omega
  have hc:x.chk=1:=by unfold Rc.chk;rw[if_neg oX,if_pos hn]
  rw[hc]
  exact Qg w _ _ _ _ _ _ _ x.obj x.id x.way x.index x.verdict x.tick x.name _ rfl _ _ _ _ hs hF hP hD hE i4 i5 i6 hbp hbr hbf hlab _ (.inr (.inl ⟨h_o,h_t,rfl⟩))
 replace h_t:(inB x.tick 0 1099511627776)=true:=by simpa using h_t
 by_cases h_i:(inB x.id 0 1099511627776)=false
 ·have hn:x.nums=false:=by unfold Rc.nums Zp;rw[hk];simp[inB] at h_o h_t h_i ⊢;omega
  have hc:x.chk=1:=by unfold Rc.chk;rw[if_neg oX,if_pos hn]
  rw[hc]
  exact Qg w _ _ _ _ _ _ _ x.obj x.id x.way x.index x.verdict x.tick x.name _ rfl _ _ _ _ hs hF hP hD hE i4 i5 i6 hbp hbr hbf hlab _ (.inr (.inr (.inl ⟨h_o,h_t,h_i,rfl⟩)))
 replace h_i:(inB x.id 0 1099511627776)=true:=by simpa using h_i
 by_cases h_d1:(decide (x.verdict<1))=true
 ·have hn:x.nums=false:=by unfold Rc.nums Zp;rw[hk];simp[inB] at h_o h_t h_i h_d1 ⊢;omega
  have hc:x.chk=1:=by unfold Rc.chk;rw[if_neg oX,if_pos hn]
  rw[hc]
  exact Qg w _ _ _ _ _ _ _ x.obj x.id x.way x.index x.verdict x.tick x.name _ rfl _ _ _ _ hs hF hP hD hE i4 i5 i6 hbp hbr hbf hlab _ (.inr (.inr (.inr (.inl ⟨h_o,h_t,h_i,h_d1,rfl⟩))))
 replace h_d1:(decide (x.verdict<1))=false:=by simpa using h_d1
 by_cases h_d2:(decide (3<x.verdict))=true
 ·have hn:x.nums=false:=by unfold Rc.nums Zp;rw[hk];simp[inB] at h_o h_t h_i h_d1 h_d2 ⊢;omega
  have hc:x.chk=1:=by unfold Rc.chk;rw[if_neg oX,if_pos hn]
  rw[hc]
  exact Qg w _ _ _ _ _ _ _ x.obj x.id x.way x.index x.verdict x.tick x.name _ rfl _ _ _ _ hs hF hP hD hE i4 i5 i6 hbp hbr hbf hlab _ (.inr (.inr (.inr (.inr (.inl ⟨h_o,h_t,h_i,h_d1,h_d2,rfl⟩)))))
 replace h_d2:(decide (3<x.verdict))=false:=by simpa using h_d2
 by_cases h_nm:(decide (0<(x.name.size:Int)))=true
 ·have hn:x.nums=true:=by unfold Rc.nums Zp;rw[hk];simp[inB] at h_o h_t h_i h_d1 h_d2 ⊢;omega
  have hz:¬x.bare=Rc.zero:=λh=>by have h:=(bz3 x hk).1 h;simp[h.1] at h_nm
  have hc:x.chk=4:=by unfold Rc.chk;rw[if_neg oX,if_neg (by rw[hn];decide),if_neg oX,if_neg hz]
  rw[hc]
  exact Qg w _ _ _ _ _ _ _ x.obj x.id x.way x.index x.verdict x.tick x.name _ rfl _ _ _ _ hs hF hP hD hE i4 i5 i6 hbp hbr hbf hlab _ (.inr (.inr (.inr (.inr (.inr (.inl ⟨h_o,h_t,h_i,h_d1,h_d2,h_nm,rfl⟩))))))
 replace h_nm:(decide (0<(x.name.size:Int)))=false:=by simpa using h_nm
 by_cases h_pz:(!decide (x.p=P6.zero))=true
 ·have hn:x.nums=true:=by unfold Rc.nums Zp;rw[hk];simp[inB] at h_o h_t h_i h_d1 h_d2 ⊢;omega
  have hz:¬x.bare=Rc.zero:=λh=>by have h:=(bz3 x hk).1 h;simp[h.2.1] at h_pz
  have hc:x.chk=4:=by unfold Rc.chk;rw[if_neg oX,if_neg (by rw[hn];decide),if_neg oX,if_neg hz]
  rw[hc]
  exact Qg w _ _ _ _ _ _ _ x.obj x.id x.way x.index x.verdict x.tick x.name _ rfl _ _ _ _ hs hF hP hD hE i4 i5 i6 hbp hbr hbf hlab _ (.inr (.inr (.inr (.inr (.inr (.inr (.inl ⟨h_o,h_t,h_i,h_d1,h_d2,h_nm,h_pz,rfl⟩)))))))
 replace h_pz:(!decide (x.p=P6.zero))=false:=by simpa using h_pz
 by_cases h_rz:(!decide (x.root=z32))=true
 ·have hn:x.nums=true:=by unfold Rc.nums Zp;rw[hk];simp[inB] at h_o h_t h_i h_d1 h_d2 ⊢;omega
  have hz:¬x.bare=Rc.zero:=λh=>by have h:=(bz3 x hk).1 h;simp[h.2.2.1] at h_rz
  have hc:x.chk=4:=by unfold Rc.chk;rw[if_neg oX,if_neg (by rw[hn];decide),if_neg oX,if_neg hz]
  rw[hc]
  exact Qg w _ _ _ _ _ _ _ x.obj x.id x.way x.index x.verdict x.tick x.name _ rfl _ _ _ _ hs hF hP hD hE i4 i5 i6 hbp hbr hbf hlab _ (.inr (.inr (.inr (.inr (.inr (.inr (.inr (.inl ⟨h_o,h_t,h_i,h_d1,h_d2,h_nm,h_pz,h_rz,rfl⟩))))))))
 replace h_rz:(!decide (x.root=z32))=false:=by simpa using h_rz
 by_cases h_fz:(!decide (x.file=z32))=true
 ·have hn:x.nums=true:=by unfold Rc.nums Zp;rw[hk];simp[inB] at h_o h_t h_i h_d1 h_d2 ⊢;omega
  have hz:¬x.bare=Rc.zero:=λh=>by have h:=(bz3 x hk).1 h;simp[h.2.2.2.1] at h_fz
  have hc:x.chk=4:=by unfold Rc.chk;rw[if_neg oX,if_neg (by rw[hn];decide),if_neg oX,if_neg hz]
  rw[hc]
  exact Qg w _ _ _ _ _ _ _ x.obj x.id x.way x.index x.verdict x.tick x.name _ rfl _ _ _ _ hs hF hP hD hE i4 i5 i6 hbp hbr hbf hlab _ (.inr (.inr (.inr (.inr (.inr (.inr (.inr (.inr (.inl ⟨h_o,h_t,h_i,h_d1,h_d2,h_nm,h_pz,h_rz,h_fz,rfl⟩)))))))))
 replace h_fz:(!decide (x.file=z32))=false:=by simpa using h_fz
 by_cases h_zw:(x.way != 0)=true
 ·have hn:x.nums=true:=by unfold Rc.nums Zp;rw[hk];simp[inB] at h_o h_t h_i h_d1 h_d2 ⊢;omega
  have hz:¬x.bare=Rc.zero:=λh=>by have h:=(bz3 x hk).1 h;simp[h.2.2.2.2.1] at h_zw
  have hc:x.chk=4:=by unfold Rc.chk;rw[if_neg oX,if_neg (by rw[hn];decide),if_neg oX,if_neg hz]
  rw[hc]
  exact Qg w _ _ _ _ _ _ _ x.obj x.id x.way x.index x.verdict x.tick x.name _ rfl _ _ _ _ hs hF hP hD hE i4 i5 i6 hbp hbr hbf hlab _ (.inr (.inr (.inr (.inr (.inr (.inr (.inr (.inr (.inr (.inl ⟨h_o,h_t,h_i,h_d1,h_d2,h_nm,h_pz,h_rz,h_fz,h_zw,(by simpa using h_zw),rfl⟩))))))))))
 replace h_zw:(x.way != 0)=false:=by simpa using h_zw
 by_cases h_zx:(x.index != 0)=true
 ·have hn:x.nums=true:=by unfold Rc.nums Zp;rw[hk];simp[inB] at h_o h_t h_i h_d1 h_d2 ⊢;omega
  have hz:¬x.bare=Rc.zero:=λh=>by have h:=(bz3 x hk).1 h;simp[h.2.2.2.2.2] at h_zx
  have hc:x.chk=4:=by unfold Rc.chk;rw[if_neg oX,if_neg (by rw[hn];decide),if_neg oX,if_neg hz]
  rw[hc]
  exact Qg w _ _ _ _ _ _ _ x.obj x.id x.way x.index x.verdict x.tick x.name _ rfl _ _ _ _ hs hF hP hD hE i4 i5 i6 hbp hbr hbf hlab _ (.inr (.inr (.inr (.inr (.inr (.inr (.inr (.inr (.inr (.inr (.inl ⟨h_o,h_t,h_i,h_d1,h_d2,h_nm,h_pz,h_rz,h_fz,h_zw,(by simpa using h_zw),h_zx,(by simpa using h_zx),rfl⟩)))))))))))
 replace h_zx:(x.index != 0)=false:=by simpa using h_zx
 have hn:x.nums=true:=by unfold Rc.nums Zp;rw[hk];simp[inB] at h_o h_t h_i h_d1 h_d2 ⊢;omega
 have hz:x.bare=Rc.zero:=(bz3 x hk).2 ⟨by have h:=h_nm;simp only[decide_eq_false_iff_not] at h;omega,by simpa using h_pz,by simpa using h_rz,by simpa using h_fz,by simpa using h_zw,by simpa using h_zx⟩
 have hc:x.chk=0:=by unfold Rc.chk;rw[if_neg oX,if_neg (by rw[hn];decide),if_neg oX,if_pos hz]
 rw[hc]
 exact Qg w _ _ _ _ _ _ _ x.obj x.id x.way x.index x.verdict x.tick x.name _ rfl _ _ _ _ hs hF hP hD hE i4 i5 i6 hbp hbr hbf hlab _ (.inr (.inr (.inr (.inr (.inr (.inr (.inr (.inr (.inr (.inr (.inr (⟨h_o,h_t,h_i,h_d1,h_d2,h_nm,h_pz,h_rz,h_fz,h_zw,(by simpa using h_zw),h_zx,(by simpa using h_zx),rfl⟩))))))))))))
theorem HK(x:Rc)(hx:x.Ok)(hk:x.kind=4)(w:World):Calls Tryz.prog 44 #[.agg x.list.toArray] w λe w2=>e=.returned (.int .i64 (x.chk:Int))/\Below w.heap.size w w2:=by
 have hs:=Rc.size hx
 have hF:RcF x.list.toArray x.p.list (cB x.root) (cB x.file) x.kind x.obj x.id x.name x.way x.index x.verdict x.tick:=@Rc.facts x hx
 rw[hk] at hF
 have hP:Hid (x.p.list.toArray=x.p.list.toArray):=Hd rfl
 have hD:Hid ((cB x.root).toArray=(cB x.root).toArray):=Hd rfl
 have hE:Hid ((cB x.file).toArray=(cB x.file).toArray):=Hd rfl
 have i4:(Tryz.prog.info? 52).map (·.size)=some x.p.list.length:=by rw[P6.len];kernel_rfl
 have i5:(Tryz.prog.info? 46).map (·.size)=some (cB x.root).length:=by rw[Zd,hx.root];kernel_rfl
 have i6:(Tryz.prog.info? 46).map (·.size)=some (cB x.file).length:=by rw[Zd,hx.file];kernel_rfl
 have hbp:=λW=>Jk x.p P6.zero hx.p ⟨dX,dX,dX,dX,dX,dX⟩ W
 have hbr:=λW=>Yo x.root z32 hx.root Qa W
 have hbf:=λW=>Yo x.file z32 hx.file Qa W
 have hlab:=Hd (λW=>Xv x.name W (Nat.le_trans hx.name dX))
 by_cases h_o:(inB x.obj 0 1099511627776)=false
 ·have hn:x.nums=false:=by unfold Rc.nums Zp;rw[hk];simp[inB] at h_o ⊢;omega
  have hc:x.chk=1:=by unfold Rc.chk;rw[if_neg oX,if_pos hn]
  rw[hc]
  exact Qn w _ _ _ _ _ _ _ x.obj x.id x.way x.index x.verdict x.tick x.name _ rfl _ _ _ _ hs hF hP hD hE i4 i5 i6 hbp hbr hbf hlab _ (.inl ⟨h_o,rfl⟩)
 replace h_o:(inB x.obj 0 1099511627776)=true:=by simpa using h_o
 by_cases h_t:(inB x.tick 0 1099511627776)=false
 ·have hn:x.nums=false:=by unfold Rc.nums Zp;rw[hk];simp[inB] at h_o h_t ⊢;omega
  have hc:x.chk=1:=by unfold Rc.chk;rw[if_neg oX,if_pos hn]
  rw[hc]
  exact Qn w _ _ _ _ _ _ _ x.obj x.id x.way x.index x.verdict x.tick x.name _ rfl _ _ _ _ hs hF hP hD hE i4 i5 i6 hbp hbr hbf hlab _ (.inr (.inl ⟨h_o,h_t,rfl⟩))
 replace h_t:(inB x.tick 0 1099511627776)=true:=by simpa using h_t
 by_cases h_nm:(decide (0<(x.name.size:Int)))=true
 ·have hn:x.nums=true:=by unfold Rc.nums Zp;rw[hk];simp[inB] at h_o h_t ⊢;omega
  have hz:¬x.bare=Rc.zero:=λh=>by have h:=(bz4 x hk).1 h;simp[h.1] at h_nm
  have hc:x.chk=4:=by unfold Rc.chk;rw[if_neg oX,if_neg (by rw[hn];decide),if_neg oX,if_neg hz]
  rw[hc]
  exact Qn w _ _ _ _ _ _ _ x.obj x.id x.way x.index x.verdict x.tick x.name _ rfl _ _ _ _ hs hF hP hD hE i4 i5 i6 hbp hbr hbf hlab _ (.inr (.inr (.inl ⟨h_o,h_t,h_nm,rfl⟩)))
 replace h_nm:(decide (0<(x.name.size:Int)))=false:=by simpa using h_nm
 by_cases h_pz:(!decide (x.p=P6.zero))=true
 ·have hn:x.nums=true:=by unfold Rc.nums Zp;rw[hk];simp[inB] at h_o h_t ⊢;omega
  have hz:¬x.bare=Rc.zero:=λh=>by have h:=(bz4 x hk).1 h;simp[h.2.1] at h_pz
  have hc:x.chk=4:=by unfold Rc.chk;rw[if_neg oX,if_neg (by rw[hn];decide),if_neg oX,if_neg hz]
  rw[hc]
  exact Qn w _ _ _ _ _ _ _ x.obj x.id x.way x.index x.verdict x.tick x.name _ rfl _ _ _ _ hs hF hP hD hE i4 i5 i6 hbp hbr hbf hlab _ (.inr (.inr (.inr (.inl ⟨h_o,h_t,h_nm,h_pz,rfl⟩))))
 replace h_pz:(!decide (x.p=P6.zero))=false:=by simpa using h_pz
 by_cases h_rz:(!decide (x.root=z32))=true
 ·have hn:x.nums=true:=by unfold Rc.nums Zp;rw[hk];simp[inB] at h_o h_t ⊢;omega
  have hz:¬x.bare=Rc.zero:=λh=>by have h:=(bz4 x hk).1 h;simp[h.2.2.1] at h_rz
  have hc:x.chk=4:=by unfold Rc.chk;rw[if_neg oX,if_neg (by rw[hn];decide),if_neg oX,if_neg hz]
  rw[hc]
  exact Qn w _ _ _ _ _ _ _ x.obj x.id x.way x.index x.verdict x.tick x.name _ rfl _ _ _ _ hs hF hP hD hE i4 i5 i6 hbp hbr hbf hlab _ (.inr (.inr (.inr (.inr (.inl ⟨h_o,h_t,h_nm,h_pz,h_rz,rfl⟩)))))
 replace h_rz:(!decide (x.root=z32))=false:=by simpa using h_rz
 by_cases h_fz:(!decide (x.file=z32))=true
 ·have hn:x.nums=true:=by unfold Rc.nums Zp;rw[hk];simp[inB] at h_o h_t ⊢;omega
  have hz:¬x.bare=Rc.zero:=λh=>by have h:=(bz4 x hk).1 h;simp[h.2.2.2.1] at h_fz
  have hc:x.chk=4:=by unfold Rc.chk;rw[if_neg oX,if_neg (by rw[hn];decide),if_neg oX,if_neg hz]
  rw[hc]
  exact Qn w _ _ _ _ _ _ _ x.obj x.id x.way x.index x.verdict x.tick x.name _ rfl _ _ _ _ hs hF hP hD hE i4 i5 i6 hbp hbr hbf hlab _ (.inr (.inr (.inr (.inr (.inr (.inl ⟨h_o,h_t,h_nm,h_pz,h_rz,h_fz,rfl⟩))))))
 replace h_fz:(!decide (x.file=z32))=false:=by simpa using h_fz
 by_cases h_zv:(x.verdict != 0)=true
 ·have hn:x.nums=true:=by unfold Rc.nums Zp;rw[hk];simp[inB] at h_o h_t ⊢;omega
  have hz:¬x.bare=Rc.zero:=λh=>by have h:=(bz4 x hk).1 h;simp[h.2.2.2.2.1] at h_zv
  have hc:x.chk=4:=by unfold Rc.chk;rw[if_neg oX,if_neg (by rw[hn];decide),if_neg oX,if_neg hz]
  rw[hc]
  exact Qn w _ _ _ _ _ _ _ x.obj x.id x.way x.index x.verdict x.tick x.name _ rfl _ _ _ _ hs hF hP hD hE i4 i5 i6 hbp hbr hbf hlab _ (.inr (.inr (.inr (.inr (.inr (.inr (.inl ⟨h_o,h_t,h_nm,h_pz,h_rz,h_fz,h_zv,(by simpa using h_zv),rfl⟩)))))))
 replace h_zv:(x.verdict != 0)=false:=by simpa using h_zv
 by_cases h_zw:(x.way != 0)=true
 ·have hn:x.nums=true:=by unfold Rc.nums Zp;rw[hk];simp[inB] at h_o h_t ⊢;omega
  have hz:¬x.bare=Rc.zero:=λh=>by have h:=(bz4 x hk).1 h;simp[h.2.2.2.2.2.1] at h_zw
  have hc:x.chk=4:=by unfold Rc.chk;rw[if_neg oX,if_neg (by rw[hn];decide),if_neg oX,if_neg hz]
  rw[hc]
  exact Qn w _ _ _ _ _ _ _ x.obj x.id x.way x.index x.verdict x.tick x.name _ rfl _ _ _ _ hs hF hP hD hE i4 i5 i6 hbp hbr hbf hlab _ (.inr (.inr (.inr (.inr (.inr (.inr (.inr (.inl ⟨h_o,h_t,h_nm,h_pz,h_rz,h_fz,h_zv,(by simpa using h_zv),h_zw,(by simpa using h_zw),rfl⟩))))))))
 replace h_zw:(x.way != 0)=false:=by simpa using h_zw
 by_cases h_zx:(x.index != 0)=true
 ·have hn:x.nums=true:=by unfold Rc.nums Zp;rw[hk];simp[inB] at h_o h_t ⊢;omega
  have hz:¬x.bare=Rc.zero:=λh=>by have h:=(bz4 x hk).1 h;simp[h.2.2.2.2.2.2.1] at h_zx
  have hc:x.chk=4:=by unfold Rc.chk;rw[if_neg oX,if_neg (by rw[hn];decide),if_neg oX,if_neg hz]
  rw[hc]
  exact Qn w _ _ _ _ _ _ _ x.obj x.id x.way x.index x.verdict x.tick x.name _ rfl _ _ _ _ hs hF hP hD hE i4 i5 i6 hbp hbr hbf hlab _ (.inr (.inr (.inr (.inr (.inr (.inr (.inr (.inr (.inl ⟨h_o,h_t,h_nm,h_pz,h_rz,h_fz,h_zv,(by simpa using h_zv),h_zw,(by simpa using h_zw),h_zx,(by simpa using h_zx),rfl⟩)))))))))
 replace h_zx:(x.index != 0)=false:=by simpa using h_zx
 by_cases h_zi:(x.id != 0)=true
 ·have hn:x.nums=true:=by unfold Rc.nums Zp;rw[hk];simp[inB] at h_o h_t ⊢;omega
  have hz:¬x.bare=Rc.zero:=λh=>by have h:=(bz4 x hk).1 h;simp[h.2.2.2.2.2.2.2] at h_zi
  have hc:x.chk=4:=by unfold Rc.chk;rw[if_neg oX,if_neg (by rw[hn];decide),if_neg oX,if_neg hz]
  rw[hc]
  exact Qn w _ _ _ _ _ _ _ x.obj x.id x.way x.index x.verdict x.tick x.name _ rfl _ _ _ _ hs hF hP hD hE i4 i5 i6 hbp hbr hbf hlab _ (.inr (.inr (.inr (.inr (.inr (.inr (.inr (.inr (.inr (.inl ⟨h_o,h_t,h_nm,h_pz,h_rz,h_fz,h_zv,(by simpa using h_zv),h_zw,(by simpa using h_zw),h_zx,(by simpa using h_zx),h_zi,(by simpa using h_zi),rfl⟩))))))))))
 replace h_zi:(x.id != 0)=false:=by simpa using h_zi
 have hn:x.nums=true:=by unfold Rc.nums Zp;rw[hk];simp[inB] at h_o h_t ⊢;omega
 have hz:x.bare=Rc.zero:=(bz4 x hk).2 ⟨by have h:=h_nm;simp only[decide_eq_false_iff_not] at h;omega,by simpa using h_pz,by simpa using h_rz,by simpa using h_fz,by simpa using h_zv,by simpa using h_zw,by simpa using h_zx,by simpa using h_zi⟩
 have hc:x.chk=0:=by unfold Rc.chk;rw[if_neg oX,if_neg (by rw[hn];decide),if_neg oX,if_pos hz]
 rw[hc]
 exact Qn w _ _ _ _ _ _ _ x.obj x.id x.way x.index x.verdict x.tick x.name _ rfl _ _ _ _ hs hF hP hD hE i4 i5 i6 hbp hbr hbf hlab _ (.inr (.inr (.inr (.inr (.inr (.inr (.inr (.inr (.inr (.inr (⟨h_o,h_t,h_nm,h_pz,h_rz,h_fz,h_zv,(by simpa using h_zv),h_zw,(by simpa using h_zw),h_zx,(by simpa using h_zx),h_zi,(by simpa using h_zi),rfl⟩)))))))))))
theorem JR(x:Rc)(hx:x.Ok)(w:World):Calls Tryz.prog 44 #[.agg x.list.toArray] w λe w2=>e=.returned (.int .i64 (x.chk:Int))/\Below w.heap.size w w2:=by
 by_cases h1:x.kind=1
 ·exact Tk x hx h1 w
 by_cases h2:x.kind=2
 ·exact Hw x hx h2 w
 by_cases h3:x.kind=3
 ·exact Hx x hx h3 w
 by_cases h4:x.kind=4
 ·exact HK x hx h4 w
 have hc:x.chk=7:=by unfold Rc.chk;rw[if_pos oX]
 rw[hc]
 have hF:RcF x.list.toArray x.p.list (cB x.root) (cB x.file) x.kind x.obj x.id x.name x.way x.index x.verdict x.tick:=@Rc.facts x hx
 have hrow0:=Hd (heap_alloc_new w (.cells x.list.toArray 54))
 have hb0:=Hd (show Below w.heap.size w (w.alloc (.cells x.list.toArray 54)) from bR.alloc nR _)
 obtain⟨c0,_⟩:=hF hrow0.out
 have hs:=Rc.size hx
 have hko:x.kind<1\/4<x.kind:=oX
 generalize x.list.toArray=R at*
 generalize x.kind=k at*
 clear hF hc h1 h2 h3 h4 hx
 rcases hko with hd|hd
 ·have hd1:decide (k<1)=true:=by simpa using hd
  clear hd
  go_enter Tryz.func44,Tryz.ntmps44
  go_wp2_with fail
  go_ret
  exact⟨rfl,hb0.out⟩
 ·have hd2:decide (4<k)=true:=by simpa using hd
  have hd1:decide (k<1)=false:=sY
  clear hd
  go_enter Tryz.func44,Tryz.ntmps44
  go_wp2_with fail
  go_ret
  exact⟨rfl,hb0.out⟩
end Go.Proofs.YtpdhceiodgnbmaaGreatDoor

/- A picture that comes in, laid open: what an argument of the laws' Png reads as is a picture in Lean, held by cells. No condition. -/
import Derived.Test.YtjpfhldklbgdcaaOpens
import Derived.Test.YtjpfhldklbgdcaaPlB
import Derived.Lib.SmallJoins
namespace Go.Proofs.Ytjpfhldklbgdcaa.PicRow
open Go.RowKit Go.Proofs.Ytjpfhldklbgdcaa.Ld Go.Proofs.YtjpfhldklbgdcaaW.PrintWords Go.Proofs.Ytjpfhldklbgdcaa.Opens

def dHead:Kd (Int×Int×Int×Int×Bool):=Kd.iso (Kd.pair (Kd.int .i64) (Kd.pair (Kd.int .i64) (Kd.pair (Kd.int .i64) (Kd.pair (Kd.int .i64) Kd.bool)))) (fun x=>x)
def dRaster:Kd (Int×Int×Int×Int×List Int):=Kd.iso (Kd.pair (Kd.int .i64) (Kd.pair (Kd.int .i64) (Kd.pair (Kd.int .i64) (Kd.pair (Kd.int .i64) (Kd.slice 3 (Kd.int .i64)))))) (fun x=>x)
def dPng:Kd ((Int×Int×Int×Int×Bool)×List S106×List Int×(Int×Int×Int×Int×List Int)×List S98):=Kd.iso (Kd.pair dHead (Kd.pair (Kd.slice 106 k106) (Kd.pair (Kd.slice 3 (Kd.int .i64)) (Kd.pair dRaster (Kd.slice 98 k98))))) (fun x=>x)
section
variable {H:Type} {enc:TypeId×Value→H} {sp:Nat→Bool} {hd:Bool} {W:World}
theorem weaken {α:Type} {n:Nat} {t:TypeId} {d:Kd α} {good good':α→Prop} (h:At enc sp hd W n t d good) (hg:∀ x,good x→good' x):At enc sp hd W n t d good':=fun cs y hy=>by
  obtain ⟨x,hx,hgx⟩:=h cs y hy
  exact ⟨x,hx,hg x hgx⟩
theorem at3 (n:Nat):At enc sp hd W n 3 (Kd.int .i64) (fun _=>True):=weaken (Opens.int Try.underlying3) (fun _ _=>trivial)
theorem at4 (n:Nat):At enc sp hd W n 4 Kd.bool (fun _=>True):=Opens.bool Try.underlying4
theorem at9 (n:Nat):At enc sp hd W n 9 Kd.string (fun x=>x.size≤maxLen):=Opens.string Try.underlying9
theorem at106 (n:Nat):At enc sp hd W n 106 k106 (fun _=>True):=by
  cases n with
  | zero=>exact Opens.zero
  | succ n=>exact weaken (Opens.struct (g:=fun x=>(⟨x.1,x.2.1,x.2.2⟩:S106)) (fun _=>rfl) Try.underlying106 (by kernel_rfl) (Opens.more rfl (by kernel_rfl) (at3 n) (Opens.more rfl (by kernel_rfl) (at3 n) (Opens.last rfl (by kernel_rfl) (at3 n))))) (fun _ _=>trivial)
theorem at98 (n:Nat):At enc sp hd W n 98 k98 (fun x=>x.f0.size≤maxLen∧x.f1.size≤maxLen):=by
  cases n with
  | zero=>exact Opens.zero
  | succ n=>exact weaken (Opens.struct (g:=fun x=>(⟨x.1,x.2⟩:S98)) (fun _=>rfl) Try.underlying98 (by kernel_rfl) (Opens.more rfl (by kernel_rfl) (at9 n) (Opens.last rfl (by kernel_rfl) (at9 n)))) (fun _ h=>h)
theorem at25 (n:Nat):At enc sp hd W n 25 (Kd.slice 3 (Kd.int .i64)) (fun xs=>xs.length≤maxLen):=by
  cases n with
  | zero=>exact Opens.zero
  | succ n=>exact weaken (Opens.slice Try.underlying25 (by kernel_rfl) (at3 n)) (fun _ h=>h.1)
theorem at24 (n:Nat):At enc sp hd W n 24 (Kd.slice 106 k106) (fun xs=>xs.length≤maxLen):=by
  cases n with
  | zero=>exact Opens.zero
  | succ n=>exact weaken (Opens.slice Try.underlying24 (by kernel_rfl) (at106 n)) (fun _ h=>h.1)
theorem at28 (n:Nat):At enc sp hd W n 28 (Kd.slice 98 k98) (fun xs=>xs.length≤maxLen∧∀ x ∈ xs,x.f0.size≤maxLen∧x.f1.size≤maxLen):=by
  cases n with
  | zero=>exact Opens.zero
  | succ n=>exact Opens.slice Try.underlying28 (by kernel_rfl) (at98 n)
theorem at23 (n:Nat):At enc sp hd W n 23 dHead (fun _=>True):=by
  cases n with
  | zero=>exact Opens.zero
  | succ n=>exact weaken (Opens.struct (g:=fun x=>x) (fun _=>rfl) Try.underlying23 (by kernel_rfl) (Opens.more rfl (by kernel_rfl) (at3 n) (Opens.more rfl (by kernel_rfl) (at3 n) (Opens.more rfl (by kernel_rfl) (at3 n) (Opens.more rfl (by kernel_rfl) (at3 n) (Opens.last rfl (by kernel_rfl) (at4 n))))))) (fun _ _=>trivial)
theorem at27 (n:Nat):At enc sp hd W n 27 dRaster (fun x=>x.2.2.2.2.length≤maxLen):=by
  cases n with
  | zero=>exact Opens.zero
  | succ n=>exact weaken (Opens.struct (g:=fun x=>x) (fun _=>rfl) Try.underlying27 (by kernel_rfl) (Opens.more rfl (by kernel_rfl) (at3 n) (Opens.more rfl (by kernel_rfl) (at3 n) (Opens.more rfl (by kernel_rfl) (at3 n) (Opens.more rfl (by kernel_rfl) (at3 n) (Opens.last rfl (by kernel_rfl) (at25 n))))))) (fun _ h=>h.2.2.2.2)
theorem at30 (n:Nat):At enc sp hd W n 30 dPng (fun x=>x.2.1.length≤maxLen∧x.2.2.1.length≤maxLen∧x.2.2.2.1.2.2.2.2.length≤maxLen∧x.2.2.2.2.length≤maxLen∧∀ y ∈ x.2.2.2.2,y.f0.size≤maxLen∧y.f1.size≤maxLen):=by
  cases n with
  | zero=>exact Opens.zero
  | succ n=>exact weaken (Opens.struct (g:=fun x=>x) (fun _=>rfl) Try.underlying30 (by kernel_rfl) (Opens.more rfl (by kernel_rfl) (at23 n) (Opens.more rfl (by kernel_rfl) (at24 n) (Opens.more rfl (by kernel_rfl) (at25 n) (Opens.more rfl (by kernel_rfl) (at27 n) (Opens.last rfl (by kernel_rfl) (at28 n))))))) (fun _ h=>⟨h.2.1,h.2.2.1,h.2.2.2.1,h.2.2.2.2.1,h.2.2.2.2.2⟩)
set_option maxRecDepth 10000 in
/-- A picture that came in. -/
theorem open_png {v:Value} {d:DataW H} {ps:List MemPlace} {r:Reach} {b:Nat} (hv:Value.okWide Try.prog W r b 30 v) (h:DataW.Trod enc Try.prog W 0 sp hd 30 v d ps):
    ∃ (p:Pl.Inp) (A5 A6 A11 A12:Option Addr) (c5 c6 c11 c12:Nat),Pl.held p ∧
      v=.agg #[.int .i64 p.w,.int .i64 p.h,.int .i64 p.d,.int .i64 p.c,.bool p.lace,.slice A5 p.tb.length c5,.slice A6 p.cl.length c6,.int .i64 p.rw,.int .i64 p.rh,.int .i64 p.rc,.int .i64 p.rd,.slice A11 p.sm.length c11,.slice A12 p.kp.length c12] ∧
      Kd.C k106 W A5 p.tb.length p.tb∧p.tb.length≤c5∧Kd.C (Kd.int .i64) W A6 p.cl.length p.cl∧p.cl.length≤c6∧Kd.C (Kd.int .i64) W A11 p.sm.length p.sm∧p.sm.length≤c11∧Kd.C k98 W A12 p.kp.length p.kp∧p.kp.length≤c12:=by
  obtain ⟨cs,rfl,hsz⟩:=WideShapes.okWide_struct Try.underlying30 hv
  obtain ⟨n,hn⟩:=h
  obtain ⟨⟨⟨x0,x1,x2,x3,x4⟩,tb,cl,⟨y0,y1,y2,y3,sm⟩,kp⟩,hK,g1,g2,g3,g4,g5⟩:=at30 n _ _ hn
  obtain ⟨_,_,e,⟨_,_,rfl,rfl,⟨_,_,rfl,rfl,⟨_,_,rfl,rfl,⟨_,_,rfl,rfl,rfl⟩⟩⟩⟩,⟨_,_,rfl,⟨A5,c5,rfl,l5,q5⟩,⟨_,_,rfl,⟨A6,c6,rfl,l6,q6⟩,⟨_,_,rfl,⟨_,_,rfl,rfl,⟨_,_,rfl,rfl,⟨_,_,rfl,rfl,⟨_,_,rfl,rfl,⟨A11,c11,rfl,l11,q11⟩⟩⟩⟩⟩,⟨A12,c12,rfl,l12,q12⟩⟩⟩⟩⟩:=hK
  unfold maxLen at g1 g2 g3 g4 g5
  refine ⟨⟨x0,x1,x2,x3,x4,tb,cl,y0,y1,y2,y3,sm,kp⟩,A5,A6,A11,A12,c5,c6,c11,c12,⟨g1,g2,g3,g4,g5⟩,?_,q5,l5,q6,l6,q11,l11,q12,l12⟩
  have e':cs.toList=_:=e
  rw [← Array.toArray_toList (xs:=cs),e']
  rfl
end
end Go.Proofs.Ytjpfhldklbgdcaa.PicRow

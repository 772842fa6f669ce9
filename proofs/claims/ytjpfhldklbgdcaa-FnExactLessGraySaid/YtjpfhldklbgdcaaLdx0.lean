import Derived.Test.YtjpfhldklbgdcaaSq
import Derived.Test.YtjpfhldklbgdcaaProg
import Derived.Below
import Derived.Deep.Draws
import Derived.Deep.AppendLies
import Derived.Maps.AppendAt
import Derived.OwnWalk
import Derived.Laws.BytesArg
import Derived.Laws.MakeOwn
import Derived.Laws.OwnMore
import Derived.Deep.OwnRows
import Derived.Tactics
import Derived.Lib.ConvBytes
import Derived.Laws.Slices
import Derived.WalkKit
import Derived.KernelRfl
import Derived.RowKit3
import Derived.Deep.LoopGhost
import Derived.Deep.QuietTactic
import Derived.BigQuiet
import Derived.WideLaws
import Derived.Deep.DeepCutAuto
import Derived.Deep.CutBlock
import Derived.Deep.RegionHeld3
import Derived.Laws.Rows
import Derived.Lib.AppendStr
import Derived.ArgAppend
import Derived.Laws.IdiomCopy
import Derived.OrdersHeld
import Derived.Laws.BitsLemmas
import Derived.RowKit
import Derived.Test.YtjpfhldklbgdcaaVWords
import Derived.Test.YtjpfhldklbgdcaaVLast
import Derived.Test.YtjpfhldklbgdcaaVTab
import Derived.Test.YtjpfhldklbgdcaaVFour
import Derived.Test.YtjpfhldklbgdcaaVQPut
import Derived.Test.YtjpfhldklbgdcaaVApart
import Derived.Test.YtjpfhldklbgdcaaVArr
import Derived.Test.YtjpfhldklbgdcaaVZeros
import Derived.Test.YtjpfhldklbgdcaaVFoot
import Derived.Test.YtjpfhldklbgdcaaVKept
import Derived.Test.YtjpfhldklbgdcaaVShare
import Derived.Test.YtjpfhldklbgdcaaVN
import Derived.Test.YtjpfhldklbgdcaaVFootNe
import Derived.Test.YtjpfhldklbgdcaaVAt
import Derived.Test.YtjpfhldklbgdcaaVEqStruct
import Derived.Test.YtjpfhldklbgdcaaVRepsOne
import Derived.Test.YtjpfhldklbgdcaaVInv
import Derived.Test.YtjpfhldklbgdcaaVInvWords
import Derived.Test.YtjpfhldklbgdcaaVGuard
import Derived.Test.YtjpfhldklbgdcaaVNEv
import Derived.Test.YtjpfhldklbgdcaaVMore
namespace Go.Proofs.Ytjpfhldklbgdcaa.Ld
open Go.RowKit Go.Proofs.Ytjpfhldklbgdcaa.Sq Go.Proofs.YtjpfhldklbgdcaaW.PrintWords Go.Proofs.YtjpfhldklbgdcaaW.PrintLast Go.Proofs.YtjpfhldklbgdcaaW.PrintMore
attribute [local go_sem] max2_int min2_int max_two min_two max_three min_three max_four min_four   -- for this text's walks alone
set_option linter.unusedVariables false
set_option linter.unusedSimpArgs false
def errW:Option Int→Value
 | none=>.nilIface
 | some c=>.iface 0 (.int .i64 c)
theorem errW_none:errW none=.nilIface:=rfl
theorem errW_some (c:Int):errW (some c)=.iface 0 (.int .i64 c):=rfl
theorem info3:(Try.prog.info? 3).map (fun i=>(i.zero,i.size,i.bytes))=some (some (.int .i64 0),1,8):=by kernel_rfl
theorem info5:(Try.prog.info? 5).map (fun i=>(i.zero,i.size,i.bytes))=some (some (.int .u8 0),1,1):=by kernel_rfl
theorem info83:(Try.prog.info? 83).map (fun i=>(i.zero,i.size,i.bytes))=some (some (.agg #[(.string ⟨#[]⟩),(.string ⟨#[]⟩)]),2,32):=by kernel_rfl
theorem info95:(Try.prog.info? 95).map (fun i=>(i.zero,i.size,i.bytes))=some (some (.agg #[(.int .i64 0),(.int .i64 0),(.int .i64 0)]),3,24):=by kernel_rfl
-- the values' own types
structure S106 where
 f0:Int
 f1:Int
 f2:Int
def z106:S106:=⟨(0:Int),(0:Int),(0:Int)⟩
def k106:Kd S106:=Kd.iso (Kd.pair (Kd.int .i64) (Kd.pair (Kd.int .i64) (Kd.int .i64))) (fun x:S106=>(x.f0,x.f1,x.f2))
theorem k106_heap:Kd.Heap k106:=Kd.heap_iso _ (Kd.heap_pair (Kd.heap_int .i64) (Kd.heap_pair (Kd.heap_int .i64) (Kd.heap_int .i64)))
theorem k106_open {w:World} {x:S106} {cs:List Value} (h:k106.K w x cs):cs=[.int .i64 x.f0,.int .i64 x.f1,.int .i64 x.f2]:=by
 obtain ⟨_,_,rfl,rfl,⟨_,_,rfl,rfl,rfl⟩⟩:=h
 exact rfl
theorem k106_openM {w:World} {base:Nat} {ok:Nat→Prop} {x:S106} {cs:List Value} (h:k106.M w base ok x cs):cs=[.int .i64 x.f0,.int .i64 x.f1,.int .i64 x.f2]:=by
 obtain ⟨_,_,rfl,rfl,⟨_,_,rfl,rfl,rfl⟩⟩:=h
 exact rfl
theorem k106_mk (w:World) (x:S106) :k106.K w x [.int .i64 x.f0,.int .i64 x.f1,.int .i64 x.f2]:=⟨[.int .i64 x.f0],[.int .i64 x.f1,.int .i64 x.f2],rfl,rfl,⟨[.int .i64 x.f1],[.int .i64 x.f2],rfl,rfl,rfl⟩⟩
theorem k106_mkM (w:World) (base:Nat) (ok:Nat→Prop) (x:S106) :k106.M w base ok x [.int .i64 x.f0,.int .i64 x.f1,.int .i64 x.f2]:=⟨[.int .i64 x.f0],[.int .i64 x.f1,.int .i64 x.f2],rfl,rfl,⟨[.int .i64 x.f1],[.int .i64 x.f2],rfl,rfl,rfl⟩⟩
def rd_T106 (xs:List S106) (i:Int):S106:=xs.getD i.toNat z106
theorem at_T106 {w:World} {A:Option Addr} {n:Nat} {xs:List S106} (h:Kd.C k106 w A n xs) (i:Int) (h0:0≤i) (h1:i < n):∃ ad ,A=some ad∧w.cell? (ad.add (i.toNat * 3))=some (.int .i64 (rd_T106 xs i).f0)∧w.cell? ⟨(ad.add (i.toNat * 3)).block,(ad.add (i.toNat * 3)).off+1,none⟩=some (.int .i64 (rd_T106 xs i).f1)∧w.cell? ⟨(ad.add (i.toNat * 3)).block,(ad.add (i.toNat * 3)).off+2,none⟩=some (.int .i64 (rd_T106 xs i).f2):=by
 obtain ⟨ad,c,e,_,hK,hc0⟩:=Kd.C_get h z106 i h0 h1
 have hc:∀ j u,c[j]?=some u→w.cell? (ad.add (i.toNat * 3+j))=some u:=hc0
 obtain rfl:=k106_open hK
 exact ⟨ad,e,hc 0 _ rfl,by rw [← add_field _ _ 1 (by omega)];exact hc 1 _ rfl,by rw [← add_field _ _ 2 (by omega)];exact hc 2 _ rfl⟩
structure S98 where
 f0:ByteArray
 f1:ByteArray
def z98:S98:=⟨(⟨#[]⟩:ByteArray),(⟨#[]⟩:ByteArray)⟩
def k98:Kd S98:=Kd.iso (Kd.pair Kd.string Kd.string) (fun x:S98=>(x.f0,x.f1))
theorem k98_heap:Kd.Heap k98:=Kd.heap_iso _ (Kd.heap_pair Kd.heap_string Kd.heap_string)
theorem k98_open {w:World} {x:S98} {cs:List Value} (h:k98.K w x cs):cs=[.string x.f0,.string x.f1]:=by
 obtain ⟨_,_,rfl,rfl,rfl⟩:=h
 exact rfl
theorem k98_openM {w:World} {base:Nat} {ok:Nat→Prop} {x:S98} {cs:List Value} (h:k98.M w base ok x cs):cs=[.string x.f0,.string x.f1]:=by
 obtain ⟨_,_,rfl,rfl,rfl⟩:=h
 exact rfl
theorem k98_mk (w:World) (x:S98) :k98.K w x [.string x.f0,.string x.f1]:=⟨[.string x.f0],[.string x.f1],rfl,rfl,rfl⟩
theorem k98_mkM (w:World) (base:Nat) (ok:Nat→Prop) (x:S98) :k98.M w base ok x [.string x.f0,.string x.f1]:=⟨[.string x.f0],[.string x.f1],rfl,rfl,rfl⟩
def rd_T98 (xs:List S98) (i:Int):S98:=xs.getD i.toNat z98
theorem at_T98 {w:World} {A:Option Addr} {n:Nat} {xs:List S98} (h:Kd.C k98 w A n xs) (i:Int) (h0:0≤i) (h1:i < n):∃ ad ,A=some ad∧w.cell? (ad.add (i.toNat * 2))=some (.string (rd_T98 xs i).f0)∧w.cell? ⟨(ad.add (i.toNat * 2)).block,(ad.add (i.toNat * 2)).off+1,none⟩=some (.string (rd_T98 xs i).f1):=by
 obtain ⟨ad,c,e,_,hK,hc0⟩:=Kd.C_get h z98 i h0 h1
 have hc:∀ j u,c[j]?=some u→w.cell? (ad.add (i.toNat * 2+j))=some u:=hc0
 obtain rfl:=k98_open hK
 exact ⟨ad,e,hc 0 _ rfl,by rw [← add_field _ _ 1 (by omega)];exact hc 1 _ rfl⟩
structure S83 where
 f0:ByteArray
 f1:ByteArray
def z83:S83:=⟨(⟨#[]⟩:ByteArray),(⟨#[]⟩:ByteArray)⟩
def k83:Kd S83:=Kd.iso (Kd.pair Kd.string Kd.string) (fun x:S83=>(x.f0,x.f1))
theorem k83_heap:Kd.Heap k83:=Kd.heap_iso _ (Kd.heap_pair Kd.heap_string Kd.heap_string)
theorem k83_open {w:World} {x:S83} {cs:List Value} (h:k83.K w x cs):cs=[.string x.f0,.string x.f1]:=by
 obtain ⟨_,_,rfl,rfl,rfl⟩:=h
 exact rfl
theorem k83_openM {w:World} {base:Nat} {ok:Nat→Prop} {x:S83} {cs:List Value} (h:k83.M w base ok x cs):cs=[.string x.f0,.string x.f1]:=by
 obtain ⟨_,_,rfl,rfl,rfl⟩:=h
 exact rfl
theorem k83_mk (w:World) (x:S83) :k83.K w x [.string x.f0,.string x.f1]:=⟨[.string x.f0],[.string x.f1],rfl,rfl,rfl⟩
theorem k83_mkM (w:World) (base:Nat) (ok:Nat→Prop) (x:S83) :k83.M w base ok x [.string x.f0,.string x.f1]:=⟨[.string x.f0],[.string x.f1],rfl,rfl,rfl⟩
def rd_T83 (xs:List S83) (i:Int):S83:=xs.getD i.toNat z83
theorem at_T83 {w:World} {A:Option Addr} {n:Nat} {xs:List S83} (h:Kd.C k83 w A n xs) (i:Int) (h0:0≤i) (h1:i < n):∃ ad ,A=some ad∧w.cell? (ad.add (i.toNat * 2))=some (.string (rd_T83 xs i).f0)∧w.cell? ⟨(ad.add (i.toNat * 2)).block,(ad.add (i.toNat * 2)).off+1,none⟩=some (.string (rd_T83 xs i).f1):=by
 obtain ⟨ad,c,e,_,hK,hc0⟩:=Kd.C_get h z83 i h0 h1
 have hc:∀ j u,c[j]?=some u→w.cell? (ad.add (i.toNat * 2+j))=some u:=hc0
 obtain rfl:=k83_open hK
 exact ⟨ad,e,hc 0 _ rfl,by rw [← add_field _ _ 1 (by omega)];exact hc 1 _ rfl⟩
structure S95 where
 f0:Int
 f1:Int
 f2:Int
def z95:S95:=⟨(0:Int),(0:Int),(0:Int)⟩
def k95:Kd S95:=Kd.iso (Kd.pair (Kd.int .i64) (Kd.pair (Kd.int .i64) (Kd.int .i64))) (fun x:S95=>(x.f0,x.f1,x.f2))
theorem k95_heap:Kd.Heap k95:=Kd.heap_iso _ (Kd.heap_pair (Kd.heap_int .i64) (Kd.heap_pair (Kd.heap_int .i64) (Kd.heap_int .i64)))
theorem k95_open {w:World} {x:S95} {cs:List Value} (h:k95.K w x cs):cs=[.int .i64 x.f0,.int .i64 x.f1,.int .i64 x.f2]:=by
 obtain ⟨_,_,rfl,rfl,⟨_,_,rfl,rfl,rfl⟩⟩:=h
 exact rfl
theorem k95_openM {w:World} {base:Nat} {ok:Nat→Prop} {x:S95} {cs:List Value} (h:k95.M w base ok x cs):cs=[.int .i64 x.f0,.int .i64 x.f1,.int .i64 x.f2]:=by
 obtain ⟨_,_,rfl,rfl,⟨_,_,rfl,rfl,rfl⟩⟩:=h
 exact rfl
theorem k95_mk (w:World) (x:S95) :k95.K w x [.int .i64 x.f0,.int .i64 x.f1,.int .i64 x.f2]:=⟨[.int .i64 x.f0],[.int .i64 x.f1,.int .i64 x.f2],rfl,rfl,⟨[.int .i64 x.f1],[.int .i64 x.f2],rfl,rfl,rfl⟩⟩
theorem k95_mkM (w:World) (base:Nat) (ok:Nat→Prop) (x:S95) :k95.M w base ok x [.int .i64 x.f0,.int .i64 x.f1,.int .i64 x.f2]:=⟨[.int .i64 x.f0],[.int .i64 x.f1,.int .i64 x.f2],rfl,rfl,⟨[.int .i64 x.f1],[.int .i64 x.f2],rfl,rfl,rfl⟩⟩
def rd_T95 (xs:List S95) (i:Int):S95:=xs.getD i.toNat z95
theorem at_T95 {w:World} {A:Option Addr} {n:Nat} {xs:List S95} (h:Kd.C k95 w A n xs) (i:Int) (h0:0≤i) (h1:i < n):∃ ad ,A=some ad∧w.cell? (ad.add (i.toNat * 3))=some (.int .i64 (rd_T95 xs i).f0)∧w.cell? ⟨(ad.add (i.toNat * 3)).block,(ad.add (i.toNat * 3)).off+1,none⟩=some (.int .i64 (rd_T95 xs i).f1)∧w.cell? ⟨(ad.add (i.toNat * 3)).block,(ad.add (i.toNat * 3)).off+2,none⟩=some (.int .i64 (rd_T95 xs i).f2):=by
 obtain ⟨ad,c,e,_,hK,hc0⟩:=Kd.C_get h z95 i h0 h1
 have hc:∀ j u,c[j]?=some u→w.cell? (ad.add (i.toNat * 3+j))=some u:=hc0
 obtain rfl:=k95_open hK
 exact ⟨ad,e,hc 0 _ rfl,by rw [← add_field _ _ 1 (by omega)];exact hc 1 _ rfl,by rw [← add_field _ _ 2 (by omega)];exact hc 2 _ rfl⟩
end Go.Proofs.Ytjpfhldklbgdcaa.Ld

/- From what an argument reads as to what its cells hold, kind by kind: a value that reads as data of its type holds numbers, strings, rows and structs as the kind tells. No condition. -/
import Derived.Test.YtjpfhldklbgdcaaLift
import Derived.Test.YtjpfhldklbgdcaaVWords
import Derived.ChangeArms
namespace Go.Proofs.Ytjpfhldklbgdcaa.Opens
open Go.RowKit Go.Proofs.YtjpfhldklbgdcaaW.PrintWords
/-- Cells that read as data of type t, with so much fuel, are of kind d, and good. -/
def At {H:Type} (enc:TypeId×Value→H) (sp:Nat→Bool) (held:Bool) (W:World) {α:Type} (n:Nat) (t:TypeId) (d:Kd α) (good:α→Prop):Prop:=
  ∀ cs y,DataW.trod enc Try.prog W 0 sp held n t cs=some y→∃ x,d.K W x cs∧good x
section
variable {H:Type} {enc:TypeId×Value→H} {sp:Nat→Bool} {held:Bool} {W:World} {α β:Type} {n:Nat} {t e:TypeId} {d:Kd α} {good:α→Prop}
theorem zero:At enc sp held W 0 t d good:=fun cs y h=>by simp [DataW.trod] at h
theorem int {k:IntKind} (ht:Try.prog.underlying t=some (.int k)):At enc sp held W n t (Kd.int k) (fun x=>(Lit.int k x).wf=true):=by
  intro cs y h
  obtain ⟨x,rfl,_,hx⟩:=DataW.trod_int ht h
  exact ⟨x,rfl,hx⟩
theorem bool (ht:Try.prog.underlying t=some .bool):At enc sp held W n t Kd.bool (fun _=>True):=by
  intro cs y h
  obtain ⟨x,rfl,_⟩:=DataW.trod_bool ht h
  exact ⟨x,rfl,trivial⟩
theorem string (ht:Try.prog.underlying t=some .string):At enc sp held W n t Kd.string (fun x=>x.size≤maxLen):=by
  intro cs y h
  obtain ⟨x,rfl,_,hx⟩:=DataW.trod_string ht h
  exact ⟨x,rfl,hx⟩
theorem pick {α:Type} {P:Nat→α→Prop} (len:Nat) (h:∀ i,i < len→∃ x,P i x):∃ xs:List α,xs.length=len∧∀ i x,xs[i]?=some x→P i x:=by
  induction len with
  | zero=>exact ⟨[],rfl,fun i x h=>by simp at h⟩
  | succ len ih =>
    obtain ⟨xs,hl,hx⟩:=ih (fun i hi=>h i (by omega))
    obtain ⟨y,hy⟩:=h len (by omega)
    refine ⟨xs++[y],by simp [hl],fun i x hi=>?_⟩
    rcases Nat.lt_or_ge i xs.length with hlt|hge
    · rw [List.getElem?_append_left hlt] at hi
      exact hx i x hi
    · have:i=len:=by
        have:=(List.getElem?_eq_some_iff.1 hi).1
        rw [List.length_append,List.length_singleton] at this
        omega
      subst this
      have hxy:x=y:=by rw [← hl] at hi;simpa using hi.symm
      rw [hxy]
      exact hy
theorem slice (ht:Try.prog.underlying t=some (.slice e)) (hc:Try.prog.cellsOf e=d.sz) (h:At enc sp held W n e d good):
    At enc sp held W (n+1) t (Kd.slice e d) (fun xs=>xs.length≤maxLen∧∀ x ∈ xs,good x):=by
  intro cs y hy
  rcases DataW.trod_slice ht hy with ⟨rfl,_⟩|⟨a,len,cap,elems,rest,m,hm,rfl,_,_,hlc,hcm,hel,hels,_,_⟩
  · exact ⟨[],⟨none,0,rfl,Nat.le_refl _,rfl,Nat.zero_le _,fun h=>absurd h (Nat.lt_irrefl 0)⟩,by simp [maxLen],fun x hx=>by cases hx⟩
  · obtain rfl:n=m:=by omega
    have one:∀ i,i < len→∃ x:α,∃ c:List Value,W.cells? 0 (a.add (i * Try.prog.cellsOf e)) (Try.prog.cellsOf e)=some c∧d.K W x c∧good x:=by
      intro i hi
      have h1:=hels i hi
      rw [List.getElem?_eq_getElem (by omega)] at h1
      obtain ⟨c,hc1,hc2⟩:=Option.bind_eq_some_iff.1 h1
      obtain ⟨x,hx,hg⟩:=h c _ hc2
      exact ⟨x,c,hc1,hx,hg⟩
    obtain ⟨xs,hl,hx⟩:=pick len one
    refine ⟨xs,⟨some a,cap,by rw [hl],by omega,?_⟩,by omega,?_⟩
    · refine ⟨rfl,by rw [hl];unfold maxLen at hcm;omega,fun hn=>⟨a,rfl,fun j p hj=>?_⟩⟩
      obtain ⟨c,hc1,hc2,_⟩:=hx j p hj
      rw [hc] at hc1
      obtain ⟨_,hcl,hcells⟩:=World.cells?_some hc1
      exact ⟨c,d.K_len hc2,hc2,fun i u hu=>by
        have hi:=(List.getElem?_eq_some_iff.1 hu).1
        have h2:=hcells i (by omega)
        rw [hu,Addr.add_add] at h2
        exact h2⟩
    · intro x hxm
      obtain ⟨i,hi,rfl⟩:=List.getElem_of_mem hxm
      obtain ⟨_,_,_,hg⟩:=hx i _ (List.getElem?_eq_getElem hi)
      exact hg
/-- A struct's fields, one behind the other. -/
def From {H:Type} (enc:TypeId×Value→H) (sp:Nat→Bool) (held:Bool) (W:World) {α:Type} (n:Nat) (fs:List Field) (off:Nat) (d:Kd α) (good:α→Prop):Prop:=
  ∀ cs:List Value,cs.length=off+d.sz→(∀ f ∈ fs,∃ y,DataW.trod enc Try.prog W 0 sp held n f.type ((cs.drop f.offset).take (Try.prog.cellsOf f.type))=some y)→∃ x,d.K W x (cs.drop off)∧good x
theorem last {f:Field} {off:Nat} (hoff:f.offset=off) (hsz:Try.prog.cellsOf f.type=d.sz) (h:At enc sp held W n f.type d good):From enc sp held W n [f] off d good:=by
  intro cs hl hf
  obtain ⟨y,hy⟩:=hf f (by simp)
  rw [hoff,hsz,List.take_of_length_le (by rw [List.length_drop];omega)] at hy
  exact h _ _ hy
theorem more {f:Field} {fs:List Field} {off:Nat} {b:Kd β} {good':β→Prop} (hoff:f.offset=off) (hsz:Try.prog.cellsOf f.type=d.sz) (h:At enc sp held W n f.type d good) (hs:From enc sp held W n fs (off+d.sz) b good'):
    From enc sp held W n (f :: fs) off (Kd.pair d b) (fun x=>good x.1∧good' x.2):=by
  intro cs hl hf
  have hl':cs.length=off+(d.sz+b.sz):=hl
  obtain ⟨y,hy⟩:=hf f (by simp)
  rw [hoff,hsz] at hy
  obtain ⟨x0,hx0,hg0⟩:=h _ _ hy
  obtain ⟨x1,hx1,hg1⟩:=hs cs (by omega) (fun g hg=>hf g (by simp [hg]))
  refine ⟨(x0,x1),⟨(cs.drop off).take d.sz,cs.drop (off+d.sz),?_,hx0,hx1⟩,hg0,hg1⟩
  rw [← List.drop_drop,List.take_append_drop]
theorem struct {fs:Array Field} {f:β→α} {g:α→β} (hfg:∀ x,f (g x)=x) (ht:Try.prog.underlying t=some (.struct fs)) (hsz:Try.prog.cellsOf t=d.sz) (h:From enc sp held W n fs.toList 0 d good):
    At enc sp held W (n+1) t (Kd.iso d f) (fun x=>good (f x)):=by
  intro cs y hy
  obtain ⟨xs,m,hm,_,hl,hxl,hfs⟩:=DataW.trod_struct ht hy
  obtain rfl:n=m:=by omega
  obtain ⟨x,hx,hg⟩:=h cs (by omega) (fun fd hfd=>by
    obtain ⟨i,hi,rfl⟩:=List.getElem_of_mem hfd
    have hi':i < fs.size:=by simpa using hi
    have h1:=hfs i fs[i] (by simp [hi'])
    rw [List.getElem?_eq_getElem (by omega)] at h1
    exact ⟨_,by simpa using h1⟩)
  refine ⟨g x,?_,by show good (f (g x));rw [hfg];exact hg⟩
  show d.K W (f (g x)) cs
  rw [hfg]
  simpa using hx
end
end Go.Proofs.Ytjpfhldklbgdcaa.Opens

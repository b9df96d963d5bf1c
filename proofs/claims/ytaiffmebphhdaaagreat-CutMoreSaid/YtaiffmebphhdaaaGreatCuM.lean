/- Package cut, plain: the search by branching. -/
import Derived.Test.YtaiffmebphhdaaaGreatTbL
import Derived.Test.YtaiffmebphhdaaaGreatTbS
namespace Go.Proofs.YtaiffmebphhdaaaGreat
set_option linter.unusedSimpArgs false
set_option linter.unusedVariables false
open Go.ChangeShapes Go.WideShapes Go.RowKit
structure CB where
 row:Rw
 id:Int
abbrev jo:=List ((Int × Int) × CB)
def lK (B:jo)(k s:Int):Option CB:=(B.find? fun x=>decide (x.1=(k,s))).map (·.2)
def dn (B:jo)(k s:Int)(b:CB):jo:=((k,s),b)::B.filter fun x=>decide (x.1≠(k,s))
def dL (B:jo):Nat→List CB
 | 0=> []
 | k+1=>dL B k++(lK B (k:Nat) 1).toList++(lK B (k:Nat) (-1)).toList
structure rM where
 kind:Int
 lits:List Int
 nums:List Fq
 row:Rw
structure jm where
 fuel:Nat
 atoms:List Rw
 steps:List rM
 point:List Fq
 much:Bool
structure mY where
 st:Int
 c:List Int
 s:jm
inductive LP where
 | hungry
 | no (l:List Rat)
 | yes (pt:List Rat)
def aK (k:Nat)(sign tt:Int):Rw:=⟨List.replicate k 0++ [sign],1,tt⟩
def pR (atoms:List Rw)(r:Rw):Option Nat:=atoms.findIdx? fun x=>decide (x.to=r.to)&&decide (x.of=r.of)
def eH (m:Nat)(s:jm)(r:Rw):Int × jm:=
 match pR s.atoms r with
 | some i=>(((m+i+1:Nat):Int),s)
 | none=>(((m+s.atoms.length+1:Nat):Int),{s with atoms:=s.atoms++ [r],steps:=s.steps++ [⟨5,[],[],r⟩]})
def Cm (x:Int × Fq):List (Int × Fq)→List (Int × Fq)
 | []=> [x]
 | y::l=>if x.1<y.1 then y::Cm x l else x::y::l
def gD:List (Int × Fq)→List (Int × Fq)
 | []=> []
 | x::l=>Cm x (gD l)
def Cn (x:Int):List Int→List Int
 | []=> [x]
 | y::l=>if x<y then y::Cn x l else x::y::l
def iH:List Int→List Int
 | []=> []
 | x::l=>Cn x (iH l)
def dB (times:List Rat)(ids:List Int):List (Int × Fq):=((times.zip ids).filter fun p=>decide (p.1≠0)).map fun p=>(-p.2,dQ p.1)
def nO (ints:List Bool)(pt:List Rat):Option Nat:=(List.range ints.length).find? fun i=>ints.getD i false&& !decide ((pt.getD i 0).den=1)
def jP (q:Rat):Int:=q.num/(q.den:Int)
def mI (a b:Int):List Int→List Int→List Int
 | [],o=>o
 | l::r,o=>mI a b r (if l≠ -a∧l≠ -b∧l∉o then o++ [l]else o)
def xK:Rw:=⟨[],0,0⟩
def gH (m:Nat)(rc:jm→jo→mY)(s:jm)(B:jo)(k:Nat)(z:Int):mY:=
 if z< -1000000∨1000000≤z∨3000<s.steps.length+8∨120<m+s.atoms.length+2 then⟨2,[],{s with much:=true}⟩else
 let a:=eH m s (aK k 1 z)
 let b:=eH m a.2 (aK k (-1) (-z-1))
 let s3:= {b.2 with steps:=b.2.steps++ [⟨6,[min a.1 b.1,max a.1 b.1],[],xK⟩]}
 let r:=rc s3 (dn B (k:Nat) 1 ⟨aK k 1 z,a.1⟩)
 if r.st≠2∨r.s.much=true∨ -a.1∉r.c then r else
 let t:=rc r.s (dn B (k:Nat) (-1) ⟨aK k (-1) (-z-1),b.1⟩)
 if t.st≠2∨t.s.much=true∨ -b.1∉t.c then t else
 let out:=iH (mI a.1 b.1 (r.c++t.c) [])
 ⟨2,out,{t.s with steps:=t.s.steps++ [⟨1,out,[],xK⟩]}⟩
def kG (rows:List Rw)(n:Nat)(B:jo):List Rw:=rows++(dL B n).map CB.row
def allI (m:Nat)(n:Nat)(B:jo):List Int:=((List.range m).map fun i=>((i+1:Nat):Int))++(dL B n).map CB.id
def rP (lp:List Rw→LP)(rows:List Rw)(ints:List Bool)(rc:jm→jo→mY)(s:jm)(B:jo):mY:=
 match lp (kG rows ints.length B)with
 | .hungry=>⟨3,[],s⟩
 | .no l=>
  if allFit l l.length=true then
   ⟨2,(gD (dB l (allI rows.length ints.length B))).map (·.1),{s with steps:=s.steps++ [⟨4,(gD (dB l (allI rows.length ints.length B))).map (·.1),(gD (dB l (allI rows.length ints.length B))).map (·.2),xK⟩]}⟩
  else⟨2,[],{s with much:=true}⟩
 | .yes pt=>
  match nO ints pt with
  | none=>⟨1,[],{s with point:=pt.map dQ,much:=s.much || !allFit pt pt.length}⟩
  | some k=>gH rows.length rc s B k (jP (pt.getD k 0))
def uw (lp:List Rw→LP)(rows:List Rw)(ints:List Bool):Nat→jm→jo→mY
 | 0,s,_=>⟨3,[],s⟩
 | d+1,s,B=>if s.fuel=0 then⟨3,[],s⟩else rP lp rows ints (uw lp rows ints d) {s with fuel:=s.fuel-1} B
end Go.Proofs.YtaiffmebphhdaaaGreat

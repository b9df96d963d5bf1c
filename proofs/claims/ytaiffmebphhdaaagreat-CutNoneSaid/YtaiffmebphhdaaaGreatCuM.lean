/- Package cut, plain: the search by branching. -/
import Derived.Test.YtaiffmebphhdaaaGreatTbL
import Derived.Test.YtaiffmebphhdaaaGreatTbS
namespace Go.Proofs.YtaiffmebphhdaaaGreat
set_option linter.unusedSimpArgs false
set_option linter.unusedVariables false
open Go.ChangeShapes Go.WideShapes Go.RowKit
structure CB where
 row:Rw
 id:Int
abbrev Bds:=List ((Int × Int) × CB)
def bGet (B:Bds)(k s:Int):Option CB:=(B.find? fun x=>decide (x.1=(k,s))).map (·.2)
def withB (B:Bds)(k s:Int)(b:CB):Bds:=((k,s),b)::B.filter fun x=>decide (x.1≠(k,s))
def bRows (B:Bds):Nat→List CB
 | 0=> []
 | k+1=>bRows B k++(bGet B (k:Nat) 1).toList++(bGet B (k:Nat) (-1)).toList
structure CStep where
 kind:Int
 lits:List Int
 nums:List Fq
 row:Rw
structure CSt where
 fuel:Nat
 atoms:List Rw
 steps:List CStep
 point:List Fq
 much:Bool
structure CRes where
 st:Int
 c:List Int
 s:CSt
inductive LP where
 | hungry
 | no (l:List Rat)
 | yes (pt:List Rat)
def limitR (k:Nat)(sign tt:Int):Rw:=⟨List.replicate k 0++ [sign],1,tt⟩
def atomAt (atoms:List Rw)(r:Rw):Option Nat:=atoms.findIdx? fun x=>decide (x.to=r.to)&&decide (x.of=r.of)
def atomF (m:Nat)(s:CSt)(r:Rw):Int × CSt:=
 match atomAt s.atoms r with
 | some i=>(((m+i+1:Nat):Int),s)
 | none=>(((m+s.atoms.length+1:Nat):Int),{s with atoms:=s.atoms++ [r],steps:=s.steps++ [⟨5,[],[],r⟩]})
def insP (x:Int × Fq):List (Int × Fq)→List (Int × Fq)
 | []=> [x]
 | y::l=>if x.1<y.1 then y::insP x l else x::y::l
def sortP:List (Int × Fq)→List (Int × Fq)
 | []=> []
 | x::l=>insP x (sortP l)
def insD (x:Int):List Int→List Int
 | []=> [x]
 | y::l=>if x<y then y::insD x l else x::y::l
def sortD:List Int→List Int
 | []=> []
 | x::l=>insD x (sortD l)
def pairsF (times:List Rat)(ids:List Int):List (Int × Fq):=((times.zip ids).filter fun p=>decide (p.1≠0)).map fun p=>(-p.2,fqOf p.1)
def openK (ints:List Bool)(pt:List Rat):Option Nat:=(List.range ints.length).find? fun i=>ints.getD i false&& !decide ((pt.getD i 0).den=1)
def floorQ (q:Rat):Int:=q.num/(q.den:Int)
def outF (a b:Int):List Int→List Int→List Int
 | [],o=>o
 | l::r,o=>outF a b r (if l≠ -a∧l≠ -b∧l∉o then o++ [l]else o)
def noRw:Rw:=⟨[],0,0⟩
def branchF (m:Nat)(rc:CSt→Bds→CRes)(s:CSt)(B:Bds)(k:Nat)(z:Int):CRes:=
 if z< -1000000∨1000000≤z∨3000<s.steps.length+8∨120<m+s.atoms.length+2 then⟨2,[],{s with much:=true}⟩else
 let a:=atomF m s (limitR k 1 z)
 let b:=atomF m a.2 (limitR k (-1) (-z-1))
 let s3:= {b.2 with steps:=b.2.steps++ [⟨6,[min a.1 b.1,max a.1 b.1],[],noRw⟩]}
 let r:=rc s3 (withB B (k:Nat) 1 ⟨limitR k 1 z,a.1⟩)
 if r.st≠2∨r.s.much=true∨ -a.1∉r.c then r else
 let t:=rc r.s (withB B (k:Nat) (-1) ⟨limitR k (-1) (-z-1),b.1⟩)
 if t.st≠2∨t.s.much=true∨ -b.1∉t.c then t else
 let out:=sortD (outF a.1 b.1 (r.c++t.c) [])
 ⟨2,out,{t.s with steps:=t.s.steps++ [⟨1,out,[],noRw⟩]}⟩
def allR (rows:List Rw)(n:Nat)(B:Bds):List Rw:=rows++(bRows B n).map CB.row
def allI (m:Nat)(n:Nat)(B:Bds):List Int:=((List.range m).map fun i=>((i+1:Nat):Int))++(bRows B n).map CB.id
def stepF (lp:List Rw→LP)(rows:List Rw)(ints:List Bool)(rc:CSt→Bds→CRes)(s:CSt)(B:Bds):CRes:=
 match lp (allR rows ints.length B)with
 | .hungry=>⟨3,[],s⟩
 | .no l=>
  if allFit l l.length=true then
   ⟨2,(sortP (pairsF l (allI rows.length ints.length B))).map (·.1),{s with steps:=s.steps++ [⟨4,(sortP (pairsF l (allI rows.length ints.length B))).map (·.1),(sortP (pairsF l (allI rows.length ints.length B))).map (·.2),noRw⟩]}⟩
  else⟨2,[],{s with much:=true}⟩
 | .yes pt=>
  match openK ints pt with
  | none=>⟨1,[],{s with point:=pt.map fqOf,much:=s.much || !allFit pt pt.length}⟩
  | some k=>branchF rows.length rc s B k (floorQ (pt.getD k 0))
def atF (lp:List Rw→LP)(rows:List Rw)(ints:List Bool):Nat→CSt→Bds→CRes
 | 0,s,_=>⟨3,[],s⟩
 | d+1,s,B=>if s.fuel=0 then⟨3,[],s⟩else stepF lp rows ints (atF lp rows ints d) {s with fuel:=s.fuel-1} B
end Go.Proofs.YtaiffmebphhdaaaGreat

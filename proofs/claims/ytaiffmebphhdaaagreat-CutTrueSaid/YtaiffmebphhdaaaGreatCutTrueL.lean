/- The law CutTrue, plain; the reference's CutWhole. -/
import Derived.Test.YtaiffmebphhdaaaGreatCuMM
import Derived.Test.YtaiffmebphhdaaaGreatCuPf
namespace Go.Proofs.YtaiffmebphhdaaaGreat
set_option maxRecDepth 100000
set_option linter.unusedSimpArgs false
set_option linter.unusedVariables false
open Go.ChangeShapes Go.WideShapes Go.RowKit
theorem zbp {n:Nat}(hn:n≤12):Qk n (uM n):=fun R l h64 hok h hf=>by
 unfold uM Z4 at h;rcases TA (f:=1048576) hn h64 hok with e | ⟨T,e,_⟩ | ⟨l',e,_,h'⟩
 all_goals rw [e]at h
 ·cases h
 ·cases h
 cases h;exact h' hf
theorem Tz (rows:List Rw)(ints:List Bool)(fuel:Int):
  (∃f,f.1≠0∧Dc rows ints fuel=⟨0,[],[],f⟩)∨Dc rows ints fuel=⟨3,[],[],(0,0)⟩∨
  (∃pt:List Fq,Dc rows ints fuel=⟨1,pt,[],(0,0)⟩∧pt.length=ints.length∧Cb rows pt=true∧∀k,k<ints.length→ints.getD k false=true→(pt.getD k ⟨0,0⟩).D=1)∨
  ∃T:List eG,Dc rows ints fuel=⟨2,[],T,(0,0)⟩∧(∀r∈rows,eD r (ints.length:Int))∧ints.length≤12∧Ga rows ints T∧T.length≤3000∧rows.length+(aF T).length≤120∧∃(T':List eG) (y:eG),T=T'++ [y]∧y.kind≠5∧∀l∈y.lits,l<0∧ -l≤(rows.length:Int):=by
 rcases Ij rows ints fuel with⟨h0,h⟩ | ⟨_,_,h⟩ | ⟨hl,hf,h | h | ⟨pt,h,h2,h3,h4,h5⟩ | ⟨T,h,_⟩⟩
 ·exact .inl ⟨_,h0,h⟩
 ·exact .inl ⟨(3,-1),dc,h⟩
 ·exact .inl ⟨(10,0),dc,h⟩
 ·exact .inr (.inl h)
 ·have hok:=(wP (l:=rows) (n:=ints.length) (by rw [hl])).2.2.2.2;refine .inr (.inr (.inl ⟨_,h,by simpa using h2,Oo hok (R5 h2 h3 h5),fun k hk ht=> ?_⟩));have hkp:k<pt.length:=om;have h1:=Ot h4 k hk ht;rw [dX,fG hkp]at h1;rw [dX,List.getElem?_map,fG hkp];show(cZ pt[k]).D=1;unfold cZ;rw [if_pos (zI h3 _ (List.getElem_mem hkp))];show((pt[k].den:Nat):Int)=1;rw [show pt[k].den=1 from h1];rfl
 obtain⟨hl0,hn0,hn12,h40,hok⟩:=wP (l:=rows) (n:=ints.length) (by rw [hl]);have hd:Dc rows ints fuel=F6 (uM ints.length) rows ints fuel.toNat:=by
  unfold Dc;rw [if_pos (by rw [hl]),if_neg om]
 rw [hd]at h;have hp:=SG (Ld om _) (zbp om) om h40 hok h;exact .inr (.inr (.inr ⟨T,by rw [hd];exact h,hok,om,hp⟩))
theorem JB (w:World)(v vi:Value)(pt:List Fq)(ints:List Bool)(h:dh w v pt)(hi:gJ w vi ints)(hl:pt.length=ints.length)(hw:∀k,k<ints.length→ints.getD k false=true→(pt.getD k ⟨0,0⟩).D=1):
  Calls Tryz.prog 13 #[v,vi] w fun e w'=>e= .returned (.bool true)∧Keep au w w':=by
 have H:=zh h;have HI:=zh hi;have HW:=zh hw;have HL:=zh hl;obtain⟨oa,ca,rfl,_,_⟩:=h.len;obtain⟨oi,ci,rfl,_,hmi⟩:=hi.len;unfold maxLen at hmi;rw [hl];rw [hl]at H;clear h hi hw hl;go_enter Tryz.func13,Tryz.ntmps13;go_wp2;go_loopw [5] (fun s wr=>∃k:Nat,k≤ints.length∧s= .int .i64 k∧wr=w) (fun s _=>(ints.length-intOf s).toNat)
 case atStart=>exact⟨0,om,rfl,rfl⟩
 obtain⟨k,hk,rfl,hwr⟩:=hrel;have hwr:w=wr:=hwr.symm;subst hwr;by_cases hkl:k<ints.length
 case neg=>
  have hlt:¬(k:Int)<(ints.length:Int):=om;go_wp2;go_ret;exact⟨rfl,kp⟩
 have hlt:(k:Int)<(ints.length:Int):=om;have hkp:k<pt.length:=by have:=HL.out;omega
 obtain⟨b5,o5,rfl,hb5,r0⟩:=HI.out.at hkl;obtain⟨bn,ofn,rfl,hbn,n0,n1⟩:=H.out.at hkp;have hd:=HW.out k hkl;rw [dX,dX,fG hkl,fG hkp]at hd;simp only [Option.getD_some]at hd;generalize ints[k]=t at *;generalize pt[k]=g at*;rcases t with _ | _
 ·clear hd;go_wp2;go_roundw
  case rel=>exact⟨k+1,om,gn,by trivial⟩
  simp [intOf];omega
 rw [hd rfl]at n1;clear hd;go_wp2;go_roundw
 case rel=>exact⟨k+1,om,gn,by trivial⟩
 simp [intOf];omega
end Go.Proofs.YtaiffmebphhdaaaGreat

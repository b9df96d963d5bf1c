/- Package tableau's Fracs. -/
import Derived.Test.YtaiffmebphhdaaaGreatFqO
import Derived.Test.YtaiffmebphhdaaaGreatFkAA
namespace Go.Proofs.YtaiffmebphhdaaaGreat
set_option maxRecDepth 100000
set_option maxHeartbeats 8000000
set_option linter.unusedSimpArgs false
set_option linter.unusedVariables false
open Go.ChangeShapes Go.WideShapes Go.RowKit
def allFit (qs:List Rat)(k:Nat):Bool:=(qs.take k).all fun q=>decide (Fits q)
theorem BJ {qs:List Rat}{k:Nat}(h:k<qs.length):allFit qs (k+1)=(allFit qs k&&decide (Fits qs[k])):=by
 unfold allFit;rw [List.take_succ_eq_append_getElem h,List.all_append];simp
theorem X7 {qs:List Rat}{k:Nat}(h:k<qs.length):(qs.take (k+1)).map dQ=(qs.take k).map dQ++ [dQ qs[k]]:=by
 rw [List.take_succ_eq_append_getElem h,List.map_append];rfl
theorem dO.ofFq {w:World}{base:Nat}{u:Value}{qs:List Rat}(h:jl w base u (qs.map dQ)):eT w u (qs.map dQ):=h.fracs (fun g hg=>by obtain⟨q,_,rfl⟩:=List.mem_map.1 hg;exact VE q)
theorem Ji (w:World)(v:Value)(qs:List Rat)(h:jN w v qs)(hn:∀q∈qs,NB 1000 q)(hl:qs.length≤1000):
  Calls Tryz.prog 31 #[v] w fun e w'=>∃u,e= .returned (.tuple #[u,.bool (allFit qs qs.length)])∧jl w' w.heap.size u (qs.map dQ)∧Keep au w w':=by
 have HQ:=zh h;have HN:=zh hn;obtain⟨oa,ca,rfl,_,hma⟩:=h.len;unfold maxLen at hma;clear h hn;go_enter Tryz.func31,Tryz.ntmps31;go_wp2;go_loopw [4,5,12] (fun s4 s5 s12 wr=>∃k:Nat,k≤qs.length∧s12= .int .i64 k∧s5= .bool (allFit qs k)∧Keep au w wr∧jl wr w.heap.size s4 ((qs.take k).map dQ)) (fun _ _ s _=>(qs.length-intOf s).toNat)
 case atStart=>exact⟨0,by omega,rfl,rfl,Keep.refl _ _,dO.nil _ _⟩
 case round=>
  obtain⟨k,hk,rfl,rfl,hkr,hou⟩:=hrel;have dP:=zh hkr;have sH:=zh hou;obtain⟨ou,cu,hu,_⟩:=hou.len;rw [List.length_map,List.length_take_of_le hk]at hu;subst hu;clear hkr hou
  by_cases hkl:k<qs.length
  case neg=>
   have hlt:¬(k:Int)<(qs.length:Int):=by omega
   obtain rfl:k=qs.length:=by omega
   go_wp2;refine bodyPost_ret (by simp [results,Tryz.results31,go_sem];rfl) rfl ?_
   refine⟨_,rfl,?_,dP.out⟩;have:=sH.out
   rwa [List.take_length]at this
  case pos=>
   have hlt:(k:Int)<(qs.length:Int):=by omega
   obtain⟨b,o,rfl,hb,xb,xS,xc,xU,p0,p1,p2,p3,hx⟩:=(HQ.out.keep dP.out).at hkl;have HX:=zh hx;have CF:=fun w=>zh (Es w _ _ hx (HN.out _ (List.getElem_mem hkl)))
   rw [Gx]at CF;have HAS:=zh (BJ hkl);have HTF:=zh (X7 hkl);have hone:((qs.take k).map dQ).length=k:=by rw [List.length_map,List.length_take_of_le hk]
   have zcW:=zh hone;clear hone;obtain⟨p,hp⟩:∃p,qs[k]=p:=⟨_,rfl⟩;rw [hp]at CF HAS HTF;clear hp;go_wp2_with fail;refine(CF _).out.mono ?_;rintro e w4 ⟨rfl,hk4⟩;have K4:Hid (Keep au w w4):=zh (dP.out.both (Keep.trans kp hk4 fun _ _ _ h=>h))
   have MF:=zh (sH.out.keep (Keep.trans kp hk4 fun _ _ _ h=>h:Keep au wr w4))
   have Ck:Hid (w.heap.size≤w4.heap.size):=zh K4.out.size;clear hk4 CF p0 p1 p2 p3 dP sH hb;have k6:Keep au w4 ((w4.alloc (.cells #[.int .i64 (dQ p).N,.int .i64 (dQ p).D] 47)).alloc (.cells #[.int .i64 (dQ p).N,.int .i64 (dQ p).D] 47)):=((Keep.refl _ _).alloc _).alloc _;obtain⟨v7,w7,hr7,ho7,hg7,_⟩:=VF (g:=dQ p) (b:=w4.heap.size+1) (MF.out.keep k6) kc (by rw [zcW.out];omega) (Nat.le_trans Ck.out k6.size)
   have hblk:=fun kk hh=>MF.out.block kk hh
   have K7:=zh ((K4.out.both k6).grown hg7 fun kk hh=>hblk kk hh)
   rw [← HTF.out]at ho7;have R9:=zh ho7;obtain⟨o7,c7,hs7,_⟩:=ho7.len;rw [List.length_map,List.length_take_of_le (by omega)]at hs7
   subst hs7;generalize (dQ p).N=fn at *;generalize (dQ p).D=fd at *;clear k6 ho7 hg7 hblk K4 MF;generalize hak:allFit qs k=ak at *;generalize hfp:decide (Fits p)=fp at *;clear hak hfp
   cases ak
   ·go_wp2_with (at_builtin;refine bG _ _ 25 _ _ rfl rfl rfl rfl hr7 ?_)
    go_roundw
    case rel=>exact⟨k+1,by omega,by go_num,by rw [HAS.out];rfl,K7.out,R9.out⟩
    case measure=>simp [intOf];omega
   ·go_wp2_with (at_builtin;refine bG _ _ 25 _ _ rfl rfl rfl rfl hr7 ?_)
    go_roundw
    case rel=>exact⟨k+1,by omega,by go_num,by rw [HAS.out];rfl,K7.out,R9.out⟩
    case measure=>simp [intOf];omega
end Go.Proofs.YtaiffmebphhdaaaGreat

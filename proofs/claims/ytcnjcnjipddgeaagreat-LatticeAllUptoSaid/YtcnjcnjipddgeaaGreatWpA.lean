/- The reference's WholePoint. -/
import Derived.Test.YtcnjcnjipddgeaaGreatRefFits
import Derived.Test.YtcnjcnjipddgeaaGreatFqO
namespace Go.Proofs.YtcnjcnjipddgeaaGreat
set_option maxRecDepth 100000
set_option maxHeartbeats 8000000
set_option linter.unusedSimpArgs false
set_option linter.unusedVariables false
open Go.ChangeShapes Go.WideShapes Go.RowKit
def wpB (xs:List Int)(k:Nat):Bool:=(xs.take k).all fun x=>decide (fitI x)
def wpF (xs:List Int)(k:Nat):List Fq:=(xs.take k).map fun x=>⟨x,1⟩
theorem wpF_len {xs:List Int}{k:Nat}(h:k≤xs.length):(wpF xs k).length=k:=by
 unfold wpF;rw [List.length_map,List.length_take_of_le h]
theorem wpF_succ {xs:List Int}{k:Nat}(h:k<xs.length):wpF xs (k+1)=wpF xs k++ [⟨xs[k],1⟩]:=by
 unfold wpF;rw [List.take_succ_eq_append_getElem h,List.map_append];rfl
theorem wpB_succ {xs:List Int}{k:Nat}(h:k<xs.length):wpB xs (k+1)=(wpB xs k&&decide (fitI xs[k])):=by
 unfold wpB;rw [List.take_succ_eq_append_getElem h,List.all_append];simp
theorem wpB_no {xs:List Int}{k:Nat}(h:k<xs.length)(hx:¬fitI xs[k]):wpB xs xs.length=false:=by
 rcases hb:wpB xs xs.length with _ | _
 ·rfl
 ·exfalso
  unfold wpB at hb;rw [List.take_length]at hb;exact hx (of_decide_eq_true (List.all_eq_true.1 hb _ (List.getElem_mem h)))
theorem wholePoint_any (w:World)(v:Value)(xs:List Int)(h:IsInts w v xs)(hl:xs.length≤1048576):
  Calls Tryz.prog 12 #[v] w fun e w'=>∃u,e= .returned (.tuple #[u,.bool (wpB xs xs.length)])∧IsFracs w' u (if wpB xs xs.length=true then wpF xs xs.length else [])∧Keep NoS w w':=by
 obtain⟨bb,hbb⟩:∃bb,wpB xs xs.length=bb:=⟨_,rfl⟩;obtain⟨L,hL⟩:∃L,(if wpB xs xs.length=true then wpF xs xs.length else [])=L:=⟨_,rfl⟩
 rw [hL,hbb];have HBB:=zh hbb;have HL:=zh hL;clear hbb hL;have HX:=zh h;obtain⟨oa,ca,rfl,_,hi64,_⟩:=id h;have HI:=zh hi64;clear h hi64;go_enter Tryz.func12,Tryz.ntmps12;go_wp2;go_loopw [4,5] (fun s4 s5 wr=>∃k:Nat,k≤xs.length∧s5= .int .i64 k∧wpB xs k=true∧Keep NoS w wr∧OwnF wr w.heap.size s4 (wpF xs k)) (fun _ s _=>(xs.length-intOf s).toNat)
 case atStart=>exact⟨0,by omega,rfl,rfl,Keep.refl _ _,OwnG.nil _ _⟩
 case round=>
  obtain⟨k,hk,rfl,hb,hkr,hou⟩:=hrel;have HB:=zh hb;have HKR:=zh hkr;have HOU:=zh hou;obtain⟨ou,cu,hu,_⟩:=hou.len;rw [wpF_len hk]at hu;subst hu;clear hb hkr hou
  by_cases hkl:k<xs.length
  case neg=>
   have hlt:¬(k:Int)<(xs.length:Int):=by omega
   obtain rfl:k=xs.length:=by omega
   go_wp2;refine bodyPost_ret (by simp [results,Tryz.results12,go_sem];rfl) rfl ?_
   have e1:bb=true:=by rw [← HBB.out];exact HB.out
   have e2:L=wpF xs xs.length:=by rw [← HL.out,if_pos HB.out]
   refine⟨_,by rw [e1],?_,HKR.out⟩
   rw [e2];refine HOU.out.fracs (fun g hg=> ?_)
   obtain⟨x,hx,rfl⟩:=List.mem_map.1 hg;exact⟨HI.out x (List.mem_of_mem_take hx),by unfold I64;simp⟩
  case pos=>
   have hlt:(k:Int)<(xs.length:Int):=by omega
   obtain⟨b,o,cap,hv,hbl,p0⟩:=HX.out.at hkl
   cases hv
   have p0:=(HKR.out.cell hbl).trans p0;have hbr:=Nat.lt_of_lt_of_le hbl HKR.out.size;have HNO:=zh (wpB_no (xs:=xs) hkl);have HBS:=zh (wpB_succ hkl);have HFS:=zh (wpF_succ hkl);generalize xs[k]=x at *;have CF:=fun w=>zh (refFit_any w x)
   by_cases hx:fitI x
   case neg=>
    rw [decide_eq_false hx]at CF;have HNO:=zh (HNO.out hx);clear hx HBS HFS;go_wp2_with fail;refine(CF _).out.mono ?_;rintro e w4 ⟨rfl,hk4⟩;have K4:Hid (Keep NoS w w4):=zh (HKR.out.both (Keep.trans kp hk4 fun _ _ _ h=>h))
    clear hk4 CF p0 hbr;go_wp2;refine bodyPost_ret (by simp [results,Tryz.results12,go_sem];rfl) rfl ?_
    have e1:bb=false:=by rw [← HBB.out];exact HNO.out
    have e2:L= []:=by rw [← HL.out,if_neg (by rw [HNO.out];decide)]
    exact⟨.slice none 0 0,by rw [e1],by rw [e2];exact nil_fracs _,K4.out⟩
   case pos=>
    rw [decide_eq_true hx]at CF HBS;clear HNO;go_wp2_with fail;refine(CF _).out.mono ?_;rintro e w4 ⟨rfl,hk4⟩;have k4:Keep NoS wr w4:=Keep.trans kp hk4 fun _ _ _ h=>h
    have K4:=zh (HKR.out.both k4);have HO4:=zh (HOU.out.keep k4);have p0:=(k4.cell hbr).trans p0;have hbr:=Nat.lt_of_lt_of_le hbr k4.size;have HS4:Hid (w.heap.size≤w4.heap.size):=zh K4.out.size;clear hk4 k4 CF hx;have k6:Keep NoS w4 (w4.alloc (.cells #[.int .i64 x,.int .i64 1] 59)):=(Keep.refl _ _).alloc _;obtain⟨v7,w7,hr7,ho7,hg7,_⟩:=app_frac (g:=⟨x,1⟩) (b:=w4.heap.size) (HO4.out.keep k6) (blk_at _ _ rfl) (by rw [wpF_len hk];omega) (Nat.le_trans HS4.out k6.size)
    have hblk:=fun kk hh=>HO4.out.block kk hh
    have K7:=zh ((K4.out.both k6).grown hg7 fun kk hh=>hblk kk hh)
    rw [← HFS.out]at ho7;have HO7:=zh ho7;obtain⟨o7,c7,hs7,_⟩:=ho7.len;rw [wpF_len (by omega)]at hs7
    subst hs7;clear k6 ho7 hg7 hblk;go_wp2_with (at_builtin;refine wpList_app_run _ _ 26 _ _ rfl rfl rfl rfl hr7 ?_);go_roundw
    case rel=>exact⟨k+1,by omega,by go_num,by rw [HBS.out,HB.out];rfl,K7.out,HO7.out⟩
    case measure=>simp [intOf];omega
end Go.Proofs.YtcnjcnjipddgeaaGreat

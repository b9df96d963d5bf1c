/- The reference's wideRows: the walk. -/
import Derived.Test.YtamjmcdlddocgaaGreatFmH
import Derived.Test.YtamjmcdlddocgaaGreatBaseA
namespace Go.Proofs.YtamjmcdlddocgaaGreat
set_option maxRecDepth 100000
set_option maxHeartbeats 32000000
set_option linter.unusedSimpArgs false
set_option linter.unusedVariables false
open Go.ChangeShapes Go.WideShapes Go.RowKit
theorem rowsW_take {n:Nat}{rows:List Rw}{i:Nat}(h:i<rows.length):rowsW n (rows.take (i+1))=rowsW n (rows.take i)++(if rows[i].kind=3 then [wrX n rows[i],wrY n rows[i]]else [wrX n rows[i]]):=by
 unfold rowsW;rw [List.take_succ_eq_append_getElem h,List.flatMap_append];simp
theorem wideRows_any (w:World)(v:Value)(rows:List Rw)(n:Nat)(h:IsRows w v rows)(hok:∀r∈rows,RowOK r (n:Int))(h40:rows.length≤40):
  Calls Tryz.prog 41 #[v,.int .i64 (n:Int)] w fun e w'=>∃u,e= .returned u∧Keep NoS w w'∧OwnWR w' w.heap.size n u (rowsW n rows):=by
 have HR:=zh h;have HOK:=zh hok;obtain⟨oa,ca,rfl,_,hma⟩:=h.len;unfold maxLen at hma;clear h hok;go_enter Tryz.func41,Tryz.ntmps41;go_wp2;go_loopw [5,6] (fun s5 s6 wr=>∃i:Nat,i≤rows.length∧s6= .int .i64 i∧Keep NoS w wr∧OwnWR wr w.heap.size n s5 (rowsW n (rows.take i))) (fun _ s _=>(rows.length-intOf s).toNat)
 case atStart=>exact⟨0,by omega,rfl,Keep.refl _ _,OwnWR.nil _ _ _⟩
 case round=>
  obtain⟨i,hi,rfl,hkr,hou⟩:=hrel;have HKR:=zh hkr;have HOU:=zh hou;obtain⟨ou,cu,rfl,_⟩:=hou.len;have hll:=rowsW_len (n:=n) (rows.take i);rw [List.length_take]at hll;have HLL:Hid ((rowsW n (rows.take i)).length≤80):=zh (by omega)
  clear hkr hou hll
  by_cases hil:i<rows.length
  case neg=>
   have hlt:¬(i:Int)<(rows.length:Int):=by omega
   obtain rfl:i=rows.length:=by omega
   generalize hL:(rowsW n (rows.take rows.length)).length=L;have HL:=zh hL;clear hL;go_wp2;go_ret;refine⟨_,rfl,HKR.out,?_⟩;have:=HOU.out;rw [HL.out,List.take_length]at this;exact this
  case pos=>
   have hlt:(i:Int)<(rows.length:Int):=by omega
   have HTK:=zh (rowsW_take (n:=n) hil);obtain⟨br,o,rfl,hbl,hrow⟩:=HR.out.at hil;obtain⟨os,cs,r0,r1,r2,hrow⟩:=hrow.row;have r0:=(HKR.out.cell hbl).trans r0;have r1:=(HKR.out.cell hbl).trans r1;have r2:=(HKR.out.cell hbl).trans r2;have hblr:=Nat.lt_of_lt_of_le hbl HKR.out.size;have hokr:=HOK.out _ (List.getElem_mem hil);generalize rows[i]=r at *;obtain⟨sv,hsv,hint,_⟩:=hrow
   cases hsv
   have HIN:=zh (hint.keep HKR.out);clear hint;have hto:=hokr.fto;unfold fitI at hto;have HOKR:=zh hokr;clear hokr;generalize rowsW n (rows.take i)=LW at *;generalize hL:LW.length=L at HOU HLL ⊢;have HL:=zh hL;clear hL;go_upto_region 5 with fail
   go_cut [7]from 17 to 29 (fun s wx=>∃b7 bt,s= .pointer (some ⟨b7,0,none⟩)∧Keep NoS wr wx∧XR wr wx b7 bt (.slice none 0 0) (.slice none 0 0) (r.to:Rat) (r.kind==2) [])
   case first=>
    refine wp_region_tree (fun w'=>Keep NoS wr w') (.two [0,1,2,3,4,6,7,8,9,10,11] 5 (.one [12] 13 (.one [] 14 (.fin []))) 13 (.one [] 5 (.one [12] 14 (.fin [])))) (by kernel_rfl) (by kernel_rfl) kp ?_
    intro X W hne hF hcl;have HCL:=zh hcl;have x1:=fun x=>((hF x).cell hblr).trans r1
    have x2:=fun x=>((hF x).cell hblr).trans r2
    have xl:=fun x=>Nat.lt_of_lt_of_le hblr (hF x).size
    clear hF hcl;simp only [wpPlanT,pickOps,zl0,zl1,zl2,clsOf,Bool.false_eq_true,if_false]
    (repeat(quiet_step (fail)));refine wpQuiet_nil ?_
    refine⟨?_,?_⟩
    ·refine wpAt rfl rfl fun K hK=> ?_
     go_simp;refine(newRat_any _ r.to 1 (by omega) (by omega) (by omega) (by omega) (by omega)).mono ?_
     rintro e w1 ⟨bt,hbt,rfl,hk1,hi1⟩;rw [divInt_oneW]at hi1;have k1:Keep NoS wr w1:=Keep.trans kp hk1 fun _ _ _ h=>h
     refine hK _ _ ⟨HCL.out _ k1,?_⟩;have HI1:=zh hi1;have K1:=zh k1;clear hK hk1 hi1 k1 x1 x2 xl
     (repeat(quiet_step (fail)));refine wpQuiet_nil ?_
     refine wpAt rfl rfl fun K hK=> ?_
     go_simp;have k2:Keep NoS wr (w1.alloc (.cells #[.slice none 0 0,.pointer none,.bool false] TWR)):=K1.out.alloc _;refine hK _ _ ⟨HCL.out _ k2,?_⟩;have HS7:Hid ((w1.alloc (.cells #[.slice none 0 0,.pointer none,.bool false] TWR)).heap[w1.heap.size]? =some (.cells #[.slice none 0 0,.pointer none,.bool false] TWR (0,0))):=zh (heap_alloc_at _ _ _ rfl);have HI2:Hid (IsRat (w1.alloc (.cells #[.slice none 0 0,.pointer none,.bool false] TWR)) bt 0 (r.to:Rat)):=zh (HI1.out.ofNewer ((Keep.refl _ _).alloc _));have HB7:Hid (wr.heap.size≤w1.heap.size):=zh K1.out.size;have K2:=zh k2;clear hK k2 HI1 K1;generalize w1.alloc (.cells #[.slice none 0 0,.pointer none,.bool false] TWR)=w2 at *;generalize w1.heap.size=b7 at *;obtain⟨m0,m1,m2,f0,f1,f2,ml⟩:=(show Blk w2 b7 _ from⟨_,HS7.out⟩).three
     (repeat(quiet_step (fail)));refine wpQuiet_nil ?_
     refine wpAt rfl rfl fun K hK=> ?_
     go_simp;have hkk:Keep NoS wr (((w2.setCell ⟨b7,0,none⟩ (.slice none 0 0)).setCell ⟨b7,1,none⟩ (.pointer (some ⟨bt,0,none⟩))).setCell ⟨b7,2,none⟩ (.bool (r.kind==2))):=((K2.out.setCell _ fun hh=>absurd hh (Nat.not_lt.2 HB7.out)).setCell _ fun hh=>absurd hh (Nat.not_lt.2 HB7.out)).setCell _ fun hh=>absurd hh (Nat.not_lt.2 HB7.out)
     refine hK _ _ ⟨HCL.out _ hkk,?_⟩;have ho:∀i,i≠b7→(((w2.setCell ⟨b7,0,none⟩ (.slice none 0 0)).setCell ⟨b7,1,none⟩ (.pointer (some ⟨bt,0,none⟩))).setCell ⟨b7,2,none⟩ (.bool (r.kind==2))).heap[i]? =w2.heap[i]? :=fun i hi=>by
      rw [heap_setCell_other _ _ _ _ hi,heap_setCell_other _ _ _ _ hi,heap_setCell_other _ _ _ _ hi]
     have hxr:XR wr (((w2.setCell ⟨b7,0,none⟩ (.slice none 0 0)).setCell ⟨b7,1,none⟩ (.pointer (some ⟨bt,0,none⟩))).setCell ⟨b7,2,none⟩ (.bool (r.kind==2))) b7 bt (.slice none 0 0) (.slice none 0 0) (r.to:Rat) (r.kind==2) []:=
      ⟨(heap_setCell_same _ _ (heap_setCell_same _ _ (heap_setCell_same _ _ HS7.out))).trans (by simp),HB7.out,⟨_,_,_,rfl⟩,HI2.out.setWR HS7.out ⟨_,_,_,rfl⟩ ho,OwnP.nil _ _⟩
     clear hK ho m0 m1 m2 f0 f1 f2;generalize ((w2.setCell ⟨b7,0,none⟩ (.slice none 0 0)).setCell ⟨b7,1,none⟩ (.pointer (some ⟨bt,0,none⟩))).setCell ⟨b7,2,none⟩ (.bool (r.kind==2))=w3 at*
     (repeat(quiet_step (fail)));refine wpQuiet_nil ?_
     refine NoPanic.normal ?_;go_wp2_with fail;go_meet;exact⟨b7,bt,rfl,hkk,hxr⟩
    ·refine wpAt rfl rfl fun K hK=> ?_
     go_simp;have k2:Keep NoS wr (wr.alloc (.cells #[.slice none 0 0,.pointer none,.bool false] TWR)).drew:=kp;refine hK _ _ ⟨HCL.out _ k2,?_⟩;have HS7:Hid ((wr.alloc (.cells #[.slice none 0 0,.pointer none,.bool false] TWR)).drew.heap[wr.heap.size]? =some (.cells #[.slice none 0 0,.pointer none,.bool false] TWR (0,0))):=zh (heap_alloc_at _ _ _ rfl);have HB7:Hid (wr.heap.size≤wr.heap.size):=zh (Nat.le_refl _);have K2:=zh k2;clear hK k2;generalize (wr.alloc (.cells #[.slice none 0 0,.pointer none,.bool false] TWR)).drew=w1 at *;obtain⟨b7,hb7⟩:∃b,b=wr.heap.size:=⟨_,rfl⟩;rw [← hb7]at HS7 ⊢;have HB7:Hid (wr.heap.size≤b7):=zh (by rw [hb7];exact Nat.le_refl _)
     clear hb7
     (repeat(quiet_step (fail)));refine wpQuiet_nil ?_
     refine wpAt rfl rfl fun K hK=> ?_
     go_simp;refine(newRat_any _ r.to 1 (by omega) (by omega) (by omega) (by omega) (by omega)).mono ?_
     rintro e w2 ⟨bt,hbt,rfl,hk1,hi1⟩;rw [divInt_oneW]at hi1;have HI2:=zh hi1;have HS7:=zh ((hk1.block _ (lt_of_heap HS7.out) fun _ h=>h).trans HS7.out)
     have K2:=zh (K2.out.both hk1);refine hK _ _ ⟨HCL.out _ K2.out,?_⟩;clear hK hk1 hi1 x1 x2 xl;obtain⟨m0,m1,m2,f0,f1,f2,ml⟩:=(show Blk w2 b7 _ from⟨_,HS7.out⟩).three
     (repeat(quiet_step (fail)));refine wpQuiet_nil ?_
     refine wpAt rfl rfl fun K hK=> ?_
     go_simp;have hkk:Keep NoS wr (((w2.setCell ⟨b7,0,none⟩ (.slice none 0 0)).setCell ⟨b7,1,none⟩ (.pointer (some ⟨bt,0,none⟩))).setCell ⟨b7,2,none⟩ (.bool (r.kind==2))):=((K2.out.setCell _ fun hh=>absurd hh (Nat.not_lt.2 HB7.out)).setCell _ fun hh=>absurd hh (Nat.not_lt.2 HB7.out)).setCell _ fun hh=>absurd hh (Nat.not_lt.2 HB7.out)
     refine hK _ _ ⟨HCL.out _ hkk,?_⟩;have ho:∀i,i≠b7→(((w2.setCell ⟨b7,0,none⟩ (.slice none 0 0)).setCell ⟨b7,1,none⟩ (.pointer (some ⟨bt,0,none⟩))).setCell ⟨b7,2,none⟩ (.bool (r.kind==2))).heap[i]? =w2.heap[i]? :=fun i hi=>by
      rw [heap_setCell_other _ _ _ _ hi,heap_setCell_other _ _ _ _ hi,heap_setCell_other _ _ _ _ hi]
     have hxr:XR wr (((w2.setCell ⟨b7,0,none⟩ (.slice none 0 0)).setCell ⟨b7,1,none⟩ (.pointer (some ⟨bt,0,none⟩))).setCell ⟨b7,2,none⟩ (.bool (r.kind==2))) b7 bt (.slice none 0 0) (.slice none 0 0) (r.to:Rat) (r.kind==2) []:=
      ⟨(heap_setCell_same _ _ (heap_setCell_same _ _ (heap_setCell_same _ _ HS7.out))).trans (by simp),HB7.out,⟨_,_,_,rfl⟩,HI2.out.setWR HS7.out ⟨_,_,_,rfl⟩ ho,OwnP.nil _ _⟩
     clear hK ho m0 m1 m2 f0 f1 f2;generalize ((w2.setCell ⟨b7,0,none⟩ (.slice none 0 0)).setCell ⟨b7,1,none⟩ (.pointer (some ⟨bt,0,none⟩))).setCell ⟨b7,2,none⟩ (.bool (r.kind==2))=w3 at*
     (repeat(quiet_step (fail)));refine wpQuiet_nil ?_
     refine NoPanic.normal ?_;go_wp2_with fail;go_meet;exact⟨b7,bt,rfl,hkk,hxr⟩
   case rest=>
    obtain⟨b7,bt,rfl,hk,hx⟩:=hcut;obtain⟨w1,rfl⟩:∃W:World,W=wc:=⟨_,rfl⟩;have HK1:=zh hk;have HX1:=zh hx;have r2:=(hk.cell hblr).trans r2;have hblr1:=Nat.lt_of_lt_of_le hblr hk.size;clear hk hx r1;go_wp2_with fail;refine(newRat_any _ (-r.to) 1 (by omega) (by omega) (by omega) (by omega) (by omega)).mono ?_
    rintro e w2 ⟨bu,hbu,rfl,hk2,hi2⟩;rw [divInt_oneW]at hi2;have HX2:=zh (HX1.out.keep hk2);have HK2:=zh (HK1.out.both hk2);have HI2:=zh hi2;have r2:=(hk2.cell hblr1).trans r2;have hblr2:=Nat.lt_of_lt_of_le hblr1 hk2.size;have hb8:b7<w2.heap.size:=lt_of_heap HX2.out.s;clear hk2 hi2 HX1 HK1 hblr1 r2;go_upto_region 7 with fail
    have hxx:XX wr (w2.alloc (.cells #[.slice none 0 0,.pointer (some ⟨bu,0,none⟩),.bool false] TWR)) b7 bt (.slice none 0 0) (r.to:Rat) (r.kind==2) [] w2.heap.size bu (.slice none 0 0) ((-r.to:Int):Rat) []:=
     ⟨HK2.out.alloc _,HX2.out.keep ((Keep.refl _ _).alloc _),⟨heap_alloc_at _ _ _ rfl,HK2.out.size,⟨_,_,_,rfl⟩,HI2.out.ofNewer ((Keep.refl _ _).alloc _),OwnP.nil _ _⟩,apart_nil _,by omega⟩
    have HXX:=zh hxx;have HWX:Hid (∀l,(⟨zq (fun j=>r.of.getD j 0) l,(r.to:Rat),r.kind==2⟩:WR)=wrX l r):=zh fun _=>rfl
    generalize (r.kind==2)=ls at *;obtain⟨b8,hb8⟩:∃b,b=w2.heap.size:=⟨_,rfl⟩;rw [← hb8]at HXX ⊢;clear hxx hblr2 HX2 HK2 HI2 hb8;generalize w2.alloc (.cells #[.slice none 0 0,.pointer (some ⟨bu,0,none⟩),.bool false] TWR)=w3 at *;generalize wr=w0 at *;go_wp2;go_loopw [9] (fun s wx=>∃(kk:Nat) (P Q:Value),kk≤n∧s= .int .i64 kk∧XX w0 wx b7 bt P (r.to:Rat) ls (zq (fun j=>r.of.getD j 0) kk) b8 bu Q ((-r.to:Int):Rat) (zq (fun j=> -r.of.getD j 0) kk)) (fun s _=>(n-intOf s).toNat)
    case atStart=>exact⟨0,_,_,by omega,rfl,HXX.out⟩
    case round=>
     obtain⟨kk,P,Q,hkn,rfl,hxx⟩:=hrel;have HXX:=zh hxx;have hbl4:=Nat.lt_of_lt_of_le hblr hxx.k.size;have q0:=(hxx.k.cell hblr).trans r0;obtain⟨op,np,cp,rfl⟩:=hxx.x.f;obtain⟨oq,nq,cq,rfl⟩:=hxx.y.f;clear hxx
     by_cases hkk:kk<n
     case neg=>
      have hlk:¬(kk:Int)<(n:Int):=by omega
      obtain rfl:kk=n:=by omega
      have hout:=HOU.out;rw [← HL.out]at hout;have hlto:=hout.lt;have KX:=zh (HXX.out.k.alloc (.cells #[.slice op np cp,.pointer (some ⟨bt,0,none⟩),.bool ls] TWR));have hxx:=HXX.out.keep ((Keep.refl _ _).alloc (.cells #[.slice op np cp,.pointer (some ⟨bt,0,none⟩),.bool ls] TWR));have ho5:=hout.keep KX.out;have hsz:(LW.length+1)*40≤140737488355328:=by have:=HL.out;have:=HLL.out;omega
      obtain⟨v5,w5,hr5,ho6,hg5⟩:=ho5.push (x:=⟨.slice op np cp,bt,⟨zq (fun j=>r.of.getD j 0) kk,(r.to:Rat),ls⟩⟩) ⟨hxx.x.o.prs,zq_len,hxx.x.t⟩ (b:=wr.heap.size) (blk_at _ _ rfl) hsz (Nat.le_trans HKR.out.size KX.out.size)
      rw [HL.out]at hr5;have K5:=zh ((HKR.out.both KX.out).grown hg5 ho5.block);have HY:=zh (hxx.app ho5 hlto hg5);have HO6:Hid (OwnWR w5 w.heap.size kk v5 (LW++ [wrX kk r])):=zh (by rw [← HWX.out];exact ho6)
      obtain⟨o5,L5,c5,e5⟩:∃o l c,v5= .slice o l c:=by
       obtain⟨o,c,h,_⟩:=HO6.out.len;exact⟨_,_,_,h⟩
      subst e5;have r1:=(K5.out.cell hbl).trans r1;have hbl5:=Nat.lt_of_lt_of_le hbl K5.out.size;obtain⟨K,hK⟩:∃K,r.kind=K:=⟨_,rfl⟩;rw [hK]at r1 HTK;clear hK;obtain⟨m0,m1,m2,f0,f1,f2,ml⟩:=(show Blk wr b7 _ from⟨_,HXX.out.x.s⟩).three
      obtain⟨n0,n1,n2,g0,g1,g2,nl⟩:=(show Blk w5 b8 _ from⟨_,HY.out.1⟩).three
      clear hxx ho5 hsz ho6 hg5 hout hlto q0 hbl4 HXX
      by_cases h3:K=3
      case neg=>
       have e3:(K==3)=false:=by rw [beq_eq_false_iff_ne];exact h3
       rw [if_neg h3]at HTK;clear h3;go_wp2_with (at_builtin;refine wpList_app_run _ _ 78 _ _ rfl rfl rfl rfl hr5 ?_);go_roundw
       case rel=>exact⟨i+1,by omega,by go_num,K5.out,by rw [HTK.out];exact HO6.out⟩
       case measure=>simp [intOf];omega
      case pos=>
       subst h3;rw [if_pos rfl]at HTK;have KY:=zh ((Keep.refl NoS w5).alloc (.cells #[.slice oq nq cq,.pointer (some ⟨bu,0,none⟩),.bool false] TWR));have hsz:((LW++ [wrX kk r]).length+1)*40≤140737488355328:=by rw [List.length_append,List.length_singleton];have:=HL.out;have:=HLL.out;omega
       have hl6:L5=(LW++ [wrX kk r]).length:=by
        obtain⟨o,c,h,_⟩:=HO6.out.len
        cases h
        rfl
       have HL6:=zh hl6;clear hl6;have ho6:=HO6.out.keep KY.out;obtain⟨v7,w7,hr7,ho7,hg7⟩:=ho6.push (x:=⟨.slice oq nq cq,bu,wrY kk r⟩) ⟨HY.out.2.1.keep KY.out,zq_len,HY.out.2.2.ofNewer KY.out⟩ (b:=w5.heap.size) (blk_at _ _ rfl) hsz (Nat.le_trans K5.out.size KY.out.size);have K7:=zh ((K5.out.both KY.out).grown hg7 ho6.block);have HO7:Hid (OwnWR w7 w.heap.size kk v7 (LW++ [wrX kk r,wrY kk r])):=zh (by rw [show LW++ [wrX kk r,wrY kk r]=LW++ [wrX kk r]++ [wrY kk r] by simp];exact ho7)
       obtain⟨o7,L7,c7,e7⟩:∃o l c,v7= .slice o l c:=by
        obtain⟨o,c,h,_⟩:=ho7.len;exact⟨_,_,_,h⟩
       subst e7;clear hsz ho6 ho7 hg7;go_wp2_with (at_builtin;first | refine wpList_app_run _ _ 78 _ _ rfl rfl rfl rfl hr5 ?_ | refine wpList_app_run _ _ 78 _ _ rfl rfl rfl rfl hr7 ?_)
       go_roundw
       case rel=>exact⟨i+1,by omega,by go_num,K7.out,by rw [HTK.out];exact HO7.out⟩
       case measure=>simp [intOf];omega
     case pos=>
      have hlk:(kk:Int)<(n:Int):=by omega
      go_upto_if 50 with fail
      go_cut [10]from 38 to 73 (fun s wy=>s= .int .i64 (r.of.getD kk 0)∧wr=wy)
      case first=>
       by_cases hkl:kk<r.of.length
       case neg=>
        have e1:¬(kk:Int)<(r.of.length:Int):=by omega
        have e2:r.of.getD kk 0=0:=by rw [List.getD_eq_getElem?_getD,List.getElem?_eq_none (by omega)];rfl
        have E2:=zh e2;clear e2;go_wp2_with fail;go_meet;exact⟨by rw [E2.out],rfl⟩
       case pos=>
        have e1:(kk:Int)<(r.of.length:Int):=by omega
        obtain⟨bi,oi,cp',hsl,hbi,hxi0⟩:=HIN.out.at hkl;simp at hsl;obtain⟨rfl,rfl⟩:=hsl;have hxi:=(HXX.out.k.cell hbi).trans hxi0;clear hxi0;have hbir:=Nat.lt_of_lt_of_le hbi HXX.out.k.size;have e2:r.of[kk]=r.of.getD kk 0:=by rw [List.getD_eq_getElem?_getD,List.getElem?_eq_getElem hkl];rfl
        have E2:=zh e2;clear e2;go_wp2_with fail;go_meet;exact⟨congrArg (Value.int .i64) E2.out,rfl⟩
      case rest=>
       obtain⟨rfl,rfl⟩:=hcut;have hc:fitI (r.of.getD kk 0):=by
        rw [List.getD_eq_getElem?_getD]
        rcases hg:r.of[kk]? with _ | x
        ·unfold fitI;simp
        ·exact HOKR.out.fit _ (List.mem_of_getElem? hg)
       have HZ1:Hid (zq (fun j=>r.of.getD j 0) (kk+1)=zq (fun j=>r.of.getD j 0) kk++ [((r.of.getD kk 0:Int):Rat)]):=zh zq_succ
       have HZ2:Hid (zq (fun j=> -r.of.getD j 0) (kk+1)=zq (fun j=> -r.of.getD j 0) kk++ [((-r.of.getD kk 0:Int):Rat)]):=zh zq_succ
       generalize r.of.getD kk 0=c at *;unfold fitI at hc;have hn12:=HOKR.out.n12;go_upto_region 13 with fail
       refine wp_region_by (fun w'=>Keep NoS wr w') [5,6,7] [([0,1,2],3),([],4),([],5),([6],7)] [] (by kernel_rfl) (by kernel_rfl) kp ?_
       intro X W hne hF hcl;have HCL:=zh hcl;have z0:=fun x=>(show Blk (W x) b7 _ from⟨_,(HXX.out.keep (hF x)).x.s⟩).cell 0
       have zl:=fun x=>lt_of_heap (HXX.out.keep (hF x)).x.s
       clear hF hcl;simp only [wpPlan,pickOps,zl0,zl1,zl2,clsOf,Bool.false_eq_true,if_false]
       (repeat(quiet_step (fail)));refine wpQuiet_nil ?_
       refine wpAt rfl rfl fun K hK=> ?_
       go_simp;refine(newRat_any _ c 1 (by omega) (by omega) (by omega) (by omega) (by omega)).mono ?_
       rintro e w4 ⟨bz,hbz,rfl,hk1,hi1⟩;rw [divInt_oneW]at hi1;have k1:Keep NoS wr w4:=Keep.trans kp hk1 fun _ _ _ h=>h
       refine hK _ _ ⟨fun _=>HCL.out _ k1,?_⟩
       have HI1:=zh hi1;have HK1:=zh k1;have HBZ:Hid (w0.heap.size≤bz):=zh (by have:=HXX.out.k.size;simp at hbz;omega)
       clear hK hk1 hi1 k1 hbz
       (repeat(quiet_step (fail)));refine wpQuiet_nil ?_
       refine wpAt rfl rfl fun K hK=> ?_
       go_simp;have k2:Keep NoS wr (w4.alloc (.cells #[.pointer (some ⟨bz,0,none⟩)] TPR)):=HK1.out.alloc _;refine hK _ _ ⟨fun _=>HCL.out _ k2,?_⟩
       have hxx:=HXX.out.keep k2;have hone:(zq (fun j=>r.of.getD j 0) kk).length≤1000:=by rw [zq_len];omega
       obtain⟨v',w5,hr,ho,hg,hv⟩:=hxx.x.o.push (HI1.out.ofNewer ((Keep.refl _ _).alloc _)) HBZ.out (b:=w4.heap.size) (blk_at _ _ rfl) hone hxx.k.size;obtain⟨o9,L9,c9,e9⟩:∃o l c,v'= .slice o l c:=by
        obtain⟨o,c,h,_⟩:=ho.len;exact⟨_,_,_,h⟩
       subst e9;have HS:=zh (hxx.x.push ho hg).s;have HN:=zh (hxx.push1 ho hg hv ⟨_,_,_,rfl⟩);rw [← HZ1.out]at HN;clear hK k2 hxx hone ho hg hv z0 zl HXX HI1 HK1 HBZ
       (repeat(quiet_step (fail)));refine wpQuiet_nil ?_
       refine wpAt rfl rfl fun K hK=> ?_
       refine wp_app_run _ _ 80 _ _ rfl rfl rfl hr ?_;refine hK _ _ ⟨fun h=>(by simp at h),?_⟩
       obtain⟨m0,m1,m2,f0,f1,f2,ml⟩:=(show Blk w5 b7 _ from⟨_,HS.out⟩).three
       clear hK hr HS
       (repeat(quiet_step (fail)));refine wpQuiet_nil ?_
       refine wpAt rfl rfl fun K hK=> ?_
       go_simp;refine hK _ _ ⟨fun h=>(by simp at h),?_⟩
       clear hK HCL m0 m1 m2 f0 f1 f2 ml;have HXX:=HN;clear HN;generalize w5.setCell ⟨b7,0,none⟩ (.slice o9 L9 c9)=w6 at*
       (repeat(quiet_step (fail)));refine wpQuiet_nil ?_
       refine NoPanic.normal ?_;clear hne W X;go_upto_region 14 with fail
       refine wp_region_by (fun w'=>Keep NoS w6 w') [6,7,8] [([0,1,2,3],4),([],5),([],6),([7],8)] [] (by kernel_rfl) (by kernel_rfl) kp ?_
       intro X W hne hF hcl;have HCL:=zh hcl;have z0:=fun x=>(show Blk (W x) b8 _ from⟨_,(HXX.out.keep (hF x)).y.s⟩).cell 0
       have zl:=fun x=>lt_of_heap (HXX.out.keep (hF x)).y.s
       clear hF hcl;simp only [wpPlan,pickOps,zl0,zl1,zl2,clsOf,Bool.false_eq_true,if_false]
       (repeat(quiet_step (fail)));refine wpQuiet_nil ?_
       refine wpAt rfl rfl fun K hK=> ?_
       go_simp;rw [Go.IntWalk.i64_in (-c) (by omega)]
       refine(newRat_any _ (-c) 1 (by omega) (by omega) (by omega) (by omega) (by omega)).mono ?_
       rintro e w7 ⟨bz,hbz,rfl,hk1,hi1⟩;rw [divInt_oneW]at hi1;have k1:Keep NoS w6 w7:=Keep.trans kp hk1 fun _ _ _ h=>h
       refine hK _ _ ⟨fun _=>HCL.out _ k1,?_⟩
       have HI1:=zh hi1;have HK1:=zh k1;have HBZ:Hid (w0.heap.size≤bz):=zh (by have:=HXX.out.k.size;simp at hbz;omega)
       clear hK hk1 hi1 k1 hbz
       (repeat(quiet_step (fail)));refine wpQuiet_nil ?_
       refine wpAt rfl rfl fun K hK=> ?_
       go_simp;have k2:Keep NoS w6 (w7.alloc (.cells #[.pointer (some ⟨bz,0,none⟩)] TPR)):=HK1.out.alloc _;refine hK _ _ ⟨fun _=>HCL.out _ k2,?_⟩
       have hxx:=HXX.out.keep k2;have hone:(zq (fun j=> -r.of.getD j 0) kk).length≤1000:=by rw [zq_len];omega
       obtain⟨v',w8,hr,ho,hg,hv⟩:=hxx.y.o.push (HI1.out.ofNewer ((Keep.refl _ _).alloc _)) HBZ.out (b:=w7.heap.size) (blk_at _ _ rfl) hone hxx.k.size;obtain⟨o9,L9,c9,e9⟩:∃o l c,v'= .slice o l c:=by
        obtain⟨o,c,h,_⟩:=ho.len;exact⟨_,_,_,h⟩
       subst e9;have HS:=zh (hxx.y.push ho hg).s;have HN:=zh (hxx.push2 ho hg hv ⟨_,_,_,rfl⟩);rw [← HZ2.out]at HN;clear hK k2 hxx hone ho hg hv z0 zl HXX HI1 HK1 HBZ
       (repeat(quiet_step (fail)));refine wpQuiet_nil ?_
       refine wpAt rfl rfl fun K hK=> ?_
       refine wp_app_run _ _ 80 _ _ rfl rfl rfl hr ?_;refine hK _ _ ⟨fun h=>(by simp at h),?_⟩
       obtain⟨m0,m1,m2,f0,f1,f2,ml⟩:=(show Blk w8 b8 _ from⟨_,HS.out⟩).three
       clear hK hr HS
       (repeat(quiet_step (fail)));refine wpQuiet_nil ?_
       refine wpAt rfl rfl fun K hK=> ?_
       go_simp;refine hK _ _ ⟨fun h=>(by simp at h),?_⟩
       clear hK HCL m0 m1 m2 f0 f1 f2 ml;have HXX:=HN;clear HN;generalize w8.setCell ⟨b8,0,none⟩ (.slice o9 L9 c9)=w9 at*
       (repeat(quiet_step (fail)));refine wpQuiet_nil ?_
       refine NoPanic.normal ?_;clear hne W X;go_wp2;go_roundw
       case rel=>exact⟨kk+1,_,_,by omega,by go_num,HXX.out⟩
       case measure=>simp [intOf];omega
end Go.Proofs.YtamjmcdlddocgaaGreat

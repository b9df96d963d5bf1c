/- Ways that are read; rows of one's own whose numbers are one's own too. -/
import Derived.Test.YtcnjcnjipddgeaaGreatLdRR
namespace Go.Proofs.YtcnjcnjipddgeaaGreat
set_option linter.unusedSimpArgs false
set_option linter.unusedVariables false
open Go.ChangeShapes Go.WideShapes Go.RowKit
theorem fit_i64 {x:Int}(h:fitI x):I64 x:=by
 unfold fitI at h;unfold I64;omega
def IsWays (w:World)(v:Value)(ws:List (List Int)):Prop:=
 ∃oa cap,v= .slice oa ws.length cap∧ws.length≤cap∧cap≤maxLen∧(ws≠ []→∃b o,oa=some ⟨b,o,none⟩∧b<w.heap.size∧∀i l,ws[i]? =some l→∃sv,w.cell? ⟨b,o+i,none⟩=some sv∧IsInts w sv l)
theorem IsWays.keep {w w':World}{v:Value}{ws:List (List Int)}(h:IsWays w v ws)(k:Keep NoS w w'):IsWays w' v ws:=by
 obtain⟨oa,cap,h1,h2,h3,h4⟩:=h;refine⟨oa,cap,h1,h2,h3,fun hne=> ?_⟩
 obtain⟨b,o,e,hb,hc⟩:=h4 hne;refine⟨b,o,e,Nat.lt_of_lt_of_le hb k.size,fun i l hl=> ?_⟩
 obtain⟨sv,c,hi⟩:=hc i l hl;exact⟨sv,(k.cell hb).trans c,hi.keep k⟩
theorem IsWays.len {w:World}{v:Value}{ws:List (List Int)}(h:IsWays w v ws):∃oa cap,v= .slice oa ws.length cap∧ws.length≤cap∧cap≤maxLen:=by
 obtain⟨oa,cap,h1,h2,h3,_⟩:=h;exact⟨oa,cap,h1,h2,h3⟩
theorem IsWays.at {w:World}{v:Value}{ws:List (List Int)}{k:Nat}(h:IsWays w v ws)(hk:k<ws.length):∃b o cap sv,v= .slice (some ⟨b,o,none⟩) ws.length cap∧b<w.heap.size∧w.cell? ⟨b,o+k,none⟩=some sv∧IsInts w sv ws[k]:=by
 obtain⟨oa,cap,h1,h2,h3,h4⟩:=h;obtain⟨b,o,rfl,hb,hc⟩:=h4 (by rintro rfl;simp at hk)
 obtain⟨sv,c,hi⟩:=hc k ws[k] (List.getElem?_eq_getElem hk);exact⟨b,o,cap,sv,h1,hb,c,hi⟩
theorem OwnW.ways {w:World}{base:Nat}{v:Value}{ws:List (List Int)}(h:OwnW w base v ws)(hx:∀u∈ws,∀x∈u,I64 x):IsWays w v ws:=by
 obtain⟨zs,h1,rfl,h3⟩:=h;obtain⟨oa,cap,hv,h4,h5⟩:=h1.len;refine⟨oa,cap,by rw [List.length_map];exact hv,by rw [List.length_map];exact h4,h5,fun hne=> ?_⟩
 obtain⟨g,cap',hv',hb,hlt,hc⟩:=OwnG.cells wyC_len h1 (by rintro rfl;simp at hne)
 rw [hv]at hv'
 cases hv'
 refine⟨g,0,rfl,hlt,fun i l hi=> ?_⟩
 rw [List.getElem?_map]at hi
 rcases hz:zs[i]? with _ | z
 ·rw [hz]at hi;cases hi
 ·rw [hz]at hi
  simp at hi;subst hi;have hm:=List.mem_of_getElem? hz;have hcell:=hc i z hz 0 _ rfl;rw [Nat.mul_one,Nat.add_zero]at hcell;exact⟨z.sv,hcell,(h3 z hm).1.ints (hx _ (List.mem_map.2 ⟨z,hm,rfl⟩))⟩
def OwnQ (w:World)(base:Nat)(v:Value)(rs:List Rw):Prop:=∃zs:List RwV,OwnG TRw 3 rwC w base v zs∧zs.map RwV.r=rs∧∀z∈zs,OwnI w base z.sv z.r.of∧Apart v z.sv
theorem OwnQ.nil (w:World)(base:Nat):OwnQ w base (.slice none 0 0) []:=⟨[],OwnG.nil _ _,rfl,by simp⟩
theorem OwnQ.len {w:World}{base:Nat}{v:Value}{rs:List Rw}(h:OwnQ w base v rs):∃o c,v= .slice o rs.length c∧rs.length≤c∧c≤maxLen:=by
 obtain⟨zs,h1,rfl,_⟩:=h;rw [List.length_map];exact h1.len
theorem OwnQ.keep {w w':World}{base:Nat}{v:Value}{rs:List Rw}(h:OwnQ w base v rs)(k:Keep NoS w w'):OwnQ w' base v rs:=by
 obtain⟨zs,h1,h2,h3⟩:=h;exact⟨zs,h1.keep k,h2,fun z hz=>⟨(h3 z hz).1.keep k,(h3 z hz).2⟩⟩
theorem OwnQ.block {w:World}{base:Nat}{v:Value}{rs:List Rw}(h:OwnQ w base v rs):∀k,v.ownBlock=some k→base≤k:=by
 obtain⟨zs,h1,_⟩:=h;exact h1.block
theorem OwnQ.lt {w:World}{base:Nat}{v:Value}{rs:List Rw}(h:OwnQ w base v rs):∀k,v.ownBlock=some k→k<w.heap.size:=by
 obtain⟨zs,h1,_⟩:=h;exact h1.lt
theorem OwnQ.off {w w':World}{base:Nat}{v:Value}{rs:List Rw}(h:OwnQ w base v rs){P:Nat→Prop}(hP:∀k,v.ownBlock=some k→P k)(hQ:∀u:Value,∀l:List Int,OwnI w base u l→Apart v u→∀k,u.ownBlock=some k→P k)(ho:∀b,b<w.heap.size→base≤b→P b→w'.heap[b]? =w.heap[b]?):OwnQ w' base v rs:=by
 obtain⟨zs,h1,h2,h3⟩:=h;exact⟨zs,ownsRow_sameZ h1 fun k hk=>ho k (h1.lt k hk) (h1.block k hk) (hP k hk),h2,fun z hz=>⟨ownsRow_sameZ (h3 z hz).1 fun k hk=>ho k ((h3 z hz).1.ltZ k hk) ((h3 z hz).1.block k hk) (hQ _ _ (h3 z hz).1 (h3 z hz).2 k hk),(h3 z hz).2⟩⟩
theorem OwnQ.app {w:World}{base:Nat}{v:Value}{rs:List Rw}(h:OwnQ w base v rs){u:Value}{r:Rw}(hu:OwnI w base u r.of)(ha:∀k,v.ownBlock=some k→u.ownBlock≠some k){b:Nat}(hb:Blk w b #[u,.int .i64 r.kind,.int .i64 r.to])(hl:rs.length≤1000)(hbase:base≤w.heap.size):
  ∃v' w',(Builtin.append_ #[22,22] 22 #[v,.slice (some ⟨b,0,none⟩) 1 1]).run Tryz.prog w= .ok v' w'∧OwnQ w' base v' (rs++ [r])∧w.grownBy w' v.ownBlock:=by
 obtain⟨zs,h2,rfl,h3⟩:=h;rw [List.length_map]at hl;obtain⟨i0,hi0,hz0,hz1,hz2⟩:=info_parts infoRw;have h1:u.oneCell'=true:=by obtain⟨o,c,e⟩:=hu.len;rw [e];rfl
 obtain⟨v',w',hr,ho,hg,hv⟩:=OwnG.app rwC_len Tryz.underlying22 hi0 hz0 hz1 hz2 rfl (by decide) h2 (x:=⟨u,r⟩) hb (by
  intro y hy;simp [rwC]at hy
  rcases hy with rfl | rfl | rfl
  ·exact h1
  ·rfl
  ·rfl) (by unfold maxLen;omega) (by omega) hbase
 have hblk:∀k,k<w.heap.size→v.ownBlock≠some k→w'.heap[k]? =w.heap[k]? :=fun k hk hn=>hg.block k hk fun e=>hn e.symm
 refine⟨v',w',hr,⟨zs++ [⟨u,r⟩],ho,by simp,fun z hz=> ?_⟩,hg⟩
 rcases List.mem_append.1 hz with hz | hz
 ·obtain ⟨a1,a2⟩:=h3 z hz
  exact⟨ownsRow_sameZ a1 fun k hk=>hblk k (a1.ltZ k hk) fun e=>a2 k e hk,fun k hk e=>grown_apart (w:=w) (w':=w') h2.lt hv (a1.ltZ k e) (fun e'=>a2 k e' e) hk⟩
 ·rw [List.mem_singleton.1 hz]
  exact⟨ownsRow_sameZ hu fun k hk=>hblk k (hu.ltZ k hk) fun e=>ha k e hk,fun k hk e=>grown_apart (w:=w) (w':=w') h2.lt hv (hu.ltZ k e) (fun e'=>ha k e' e) hk⟩
theorem OwnQ.rows {w:World}{base:Nat}{v:Value}{rs:List Rw}(h:OwnQ w base v rs)(hx:∀r∈rs,(∀x∈r.of,I64 x)∧I64 r.kind∧I64 r.to):IsRows w v rs:=by
 obtain⟨zs,h1,rfl,h3⟩:=h;obtain⟨oa,cap,hv,h4,h5⟩:=h1.len;refine⟨oa,cap,by rw [List.length_map];exact hv,by rw [List.length_map];exact h4,h5,fun hne=> ?_⟩
 obtain⟨g,cap',hv',hb,hlt,hc⟩:=OwnG.cells rwC_len h1 (by rintro rfl;simp at hne)
 rw [hv]at hv'
 cases hv'
 refine⟨g,0,rfl,hlt,fun i x hi=> ?_⟩
 rw [List.getElem?_map]at hi
 rcases hz:zs[i]? with _ | z
 ·rw [hz]at hi;cases hi
 ·rw [hz]at hi
  simp at hi;subst hi;have hm:=List.mem_of_getElem? hz;obtain⟨g1,g2,g3⟩:=hx _ (List.mem_map.2 ⟨z,hm,rfl⟩);exact⟨z.sv,hc i z hz 0 _ rfl,hc i z hz 1 _ rfl,hc i z hz 2 _ rfl,(h3 z hm).1.ints g1,g2,g3,(h3 z hm).1.cap⟩
end Go.Proofs.YtcnjcnjipddgeaaGreat

/- Two rows of rationals that grow side by side. -/
import Derived.Test.YtdcaaehapdhckaaGreatDoorRRowM
import Derived.Test.YtdcaaehapdhckaaGreatDoorKQ
set_option linter.unusedSimpArgs false
set_option linter.unusedVariables false
set_option maxRecDepth 100000
namespace Go.Proofs.YtdcaaehapdhckaaGreatDoor
open Go.RowKit Go.Num Go.Flow
set_option maxHeartbeats 4000000

theorem RatApp.own {w:World} {B:Nat} {v:Value} {rs:List Rat} {K:Nat} (h:RatApp w B v rs K):∀q,v.ownBlock=some q→B≤q∧q<w.heap.size:=by
 obtain ⟨qs,h1,h2,h3⟩:=h
 exact fun q e=>World.ownsRow.lt h2.1 q e
theorem RatApp.shape {w:World} {B:Nat} {v:Value} {rs:List Rat} {K:Nat} (h:RatApp w B v rs K):∃ao c,v=.slice ao rs.length c∧rs.length≤c∧c≤maxLen:=by
 obtain ⟨qs,h1,h2,h3⟩:=h
 exact row_shape h2.1
theorem RowP.kept {p:Value→Prop} {w w':World} {B:Nat} {e:TypeId} {size:Nat} {v:Value} {n:Nat} {xs:List Value} {row:Option Nat} (h:RowP p w B e size v n xs) (hg:w.grownBy w' row) (hne:∀q,v.ownBlock=some q→row≠some q):RowP p w' B e size v n xs:=by
 refine ⟨row_keep h.1 ⟨hg.size,fun b hb hl=>hg.block b hl fun e=>hne b hb e.symm⟩,fun g e=>?_⟩
 obtain ⟨cur,h1,h2⟩:=h.2 g e
 exact ⟨cur,(hg.block g (ZL h1) fun e2=>hne g e e2.symm).trans h1,h2⟩
theorem RatApp.kept {w w':World} {B B2:Nat} {v v2:Value} {rs rs2:List Rat} {K K2:Nat} (h:RatApp w B v rs K) (h2:RatApp w B2 v2 rs2 K2) (hg:w.grownBy w' v2.ownBlock) (hne:∀q,v.ownBlock=some q→v2.ownBlock≠some q):RatApp w' B v rs K:=by
 obtain ⟨qs,h1,h3,h4⟩:=h
 obtain ⟨qs2,k1,k3,k4⟩:=h2
 exact ⟨qs,h1,h3.kept hg hne,fun j hj=>(h4 j hj).grown k3 hg⟩
theorem RatApp.keeps {w w':World} {B:Nat} {v u:Value} {rs:List Rat} {r:Rat} {K K2:Nat} (h:RatApp w B v rs K) (hg:w.grownBy w' v.ownBlock) (hr:RtIn w u r K2):RtIn w' u r K2:=by
 obtain ⟨qs,h1,h3,h4⟩:=h
 exact hr.grown h3 hg
theorem append_rat2 {w:World} {B:Nat} {v:Value} {rs:List Rat} {K:Nat} (h:RatApp w B v rs K) (hl:rs.length≤100000) {b:Nat} {s1:Bool} {a1:Option Addr} {c1 l1:Nat} {s2:Bool} {a2:Option Addr} {c2 l2:Nat} {t:TypeId} (hk:w.heap[b]?=some (.cells #[.bool s1,.slice a1 c1 l1,.bool s2,.slice a2 c2 l2] t (0,0))) {r:Rat} (hr:RtIn w (.agg #[.bool s1,.slice a1 c1 l1,.bool s2,.slice a2 c2 l2]) r K) (hB:B≤w.heap.size) (ty:TypeId) :
  ∃v' w',(Builtin.append_ #[61,61] ty #[v,.slice (some ⟨b,0,none⟩) 1 1]).run Tryz.prog w=.ok v' w'∧RatApp w' B v' (rs++[r]) K∧w.grownBy w' v.ownBlock∧(v'.ownBlock=v.ownBlock∨v'.ownBlock=some w.heap.size)∧Below B w w':=by
 obtain ⟨v',w',hrun,happ,hb⟩:=append_rat h hl hk hr hB ty
 refine ⟨v',w',hrun,happ,?_⟩
 obtain ⟨qs,h1,h2,h3⟩:=h
 obtain ⟨i0,hi,hz,hs,hby⟩:∃i,Tryz.prog.info? 47=some i∧i.zero=some (.agg #[.bool false,.slice none 0 0,.bool false,.slice none 0 0])∧i.size=4∧i.bytes=64:=by
  have h:=infoRat
  cases hx:Tryz.prog.info? 47 with
  | none=>rw[hx] at h; simp at h
  | some i=>rw[hx] at h; simp at h; exact ⟨i,rfl,h.1,h.2.1,h.2.2⟩
 obtain ⟨v2,w2,e,-,h5,h6⟩:=run_append_at (P:=Tryz.prog) (w:=w) B 61 ty 47 i0 _ 4 64 Tryz.underlying61 hi hz hs hby rfl (by decide) v rs.length (qCells qs) h2.1 ⟨b,0,none⟩ 1 1 [.bool s1,.slice a1 c1 l1,.bool s2,.slice a2 c2 l2] rfl (fun j u hu=>by
  have:(⟨b,0,none⟩:Addr).add j=⟨b,j,none⟩:=by
   unfold Addr.add
   split
   ·next h=>subst h; rfl
   ·simp
  rw[this,ZI hk,←hu]
  simp) (by intro u hu; simp at hu; rcases hu with rfl | rfl | rfl | rfl<;>rfl) (by decide) (by unfold maxLen; omega) (by omega) hB
 rw[hrun] at e
 simp only[Result.ok.injEq] at e
 obtain ⟨rfl,rfl⟩:=e
 exact ⟨h5,h6,hb⟩
end Go.Proofs.YtdcaaehapdhckaaGreatDoor


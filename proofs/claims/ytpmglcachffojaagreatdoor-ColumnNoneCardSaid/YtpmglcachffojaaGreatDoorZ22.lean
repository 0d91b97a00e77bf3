/- A part of what None leans on. -/
import Derived.Test.YtpmglcachffojaaGreatDoorZ20
import Derived.Lib.OthersKept
import Derived.Lib.ValidLaws
import Derived.Laws.RangeAny
import Derived.Laws.StructEq
import Derived.Lib.QuoteBits
import Derived.StillTailTactics
set_option maxRecDepth 100000
set_option maxHeartbeats 16000000
namespace Go.Proofs.YtpmglcachffojaaGreatDoor
section
open Go Go.RowKit
def zzo:Ty (Int×List UInt8):=Ty.prod tI64 (tSl tU8)
theorem jj9:zzL Tryz.prog 25 55 zzo.size:=zzL.mk' (bytes:=32) (z:=.agg #[.int .i64 0,.slice none 0 0]) (by kernel_rfl) (by kernel_rfl) rfl (by decide) (by decide)
structure BuR (w0:World) (g:Nat) (m enc tx:Int) (F:Nat->Prop) (A:Option Addr) (n c:Nat) (ss:List (Int×List UInt8)) (W:World):Prop where
 hold:W.heap[g]?=some (.cells #[.int .i64 m,.int .i64 enc,.int .i64 tx,.slice A n c] 85 (0,0))
 own:OwnF zzo 55 F W (g+1) A n c ss
 below:Below g w0 W
theorem xxs (w0:World) (g:Nat) (m enc tx:Int) (F:Nat->Prop) (A:Option Addr) (n c:Nat) (ss:List (Int×List UInt8)) (w:World) (h:BuR w0 g m enc tx F A n c ss w) (hF:¬ F g) (k:Int) (hk : -9223372036854775808<=k/\k<=9223372036854775807)
 (G:Nat->Prop) (Ab:Option Addr) (nb cb:Nat) (bs:List UInt8) (hb:Sl tU8 G w Ab nb cb bs) (hG:¬ G g) (hGA:∀ b,A=some ⟨b,0,none⟩->¬ G b) (hn:n<=1000) :
 Calls Tryz.prog 43 #[.pointer (some ⟨g,0,none⟩),.int .i64 k,.slice Ab nb cb] w fun e w'=>e=.returned (.tuple #[])/\(∃ A' c',BuR w0 g m enc tx (fun b=>(F b∨G b)/\b<w.heap.size) A' (n+1) c' (ss++[(k,bs)]) w'/\(A'.map (·.block)=A.map (·.block)∨A'.map (·.block)=some (w.heap.size+1))) /\
  w.heap.size<=w'.heap.size/\(∀ b,b<w.heap.size->b≠g->A.map (·.block)≠some b->w'.heap[b]?=w.heap[b]?):=by
 have hgl:g<w.heap.size:=(Array.getElem?_eq_some_iff.1 h.hold).1
 have HH:=zH h.hold;have HO:=zH h.own;have HBW:=zH h.below;have HS:=zH hb
 have c3:w.cell? ⟨g,3,none⟩=some (.slice A n c):=by rw [zC h.hold];rfl
 have hA:∀ b,A.map (·.block)=some b->g+1<=b:=fun b e=>(h.own.lies (b:=b) (by rw [zzb];exact e)).2.1
 have HA:=zH hA
 clear h hb hA
 go_enter Tryz.func43,Tryz.ntmps43
 go_wp2_with (first
  | (at_builtin;refine apl1 (T:=zzo) jj9 w w rfl (.tmp 11) (.tmp 15) rfl (g+1) A n c ss (by rfl) F G HO.out (zR) hgl _ (by rfl) [.int .i64 k,.slice Ab nb cb] (k,bs) ⟨[.int .i64 k],[.slice Ab nb cb],rfl,⟨rfl,hk⟩,⟨Ab,nb,cb,rfl,HS.out⟩⟩ 55 rfl (fun b h1 _ _=>hGA b h1) (by omega) ?_;intro A5 c5 w5 h5;have hg5:w5.heap[g]?=some (.cells #[.int .i64 m,.int .i64 enc,.int .i64 tx,.slice A n c] 85 (0,0)):=(h5.grown.block g (by simp;omega) (fun e=>by have:=HA.out g e.symm;omega)).trans ((Below.heap_alloc w _ g hgl).trans HH.out);have d3:w5.cell? ⟨g,3,none⟩=some (.slice A n c):=(by rw [zC hg5];rfl);have f3:=zF hg5 3;have HG5:=zH hg5;clear hg5)
  | fail)
 go_end0
 have hsz5:=h5.grown.size
 rw [zS] at hsz5
 refine⟨rfl,⟨A5,c5,⟨zza HG5.out rfl,?_,?_⟩,(by have h6:=h5.lies;rw [zS] at h6;exact h6)⟩,by simp;omega,fun b hb1 hb2 hb3=>?_⟩
 · refine h5.own.setCell (p:=⟨g,3,none⟩) (fun hx=>?_) (fun e=>?_) _
   · rcases hx.1 with hx | hx
     · exact hF hx
     · exact hG hx
   · have:=(h5.own.lies (b:=g) (by rw [zzb,e];rfl)).2.1
     omega
 · exact zzn (((HBW.out.alloc (Nat.le_of_lt hgl) _).grown h5.grown (by simp;omega) (fun b e=>by have:=HA.out b e;omega))) zN _
 · exact (Below.heap_setCell _ _ _ _ hb2).trans ((h5.grown.block b (by simp;omega) (fun e=>hb3 e.symm)).trans (Below.heap_alloc w _ b hb1))
end
section
open Go Go.RowKit
end
section
open Go Go.RowKit
end
section
open Go Go.RowKit
end
section
open Go Go.RowKit
def uu8 (w w':World):Prop:=∃ m,w'=w.drewN m
theorem uu8.refl (w:World):uu8 w w:=⟨0,rfl⟩
theorem xqz {w w':World} (h:uu8 w w') (n:Nat):uu8 w (w'.drewN n):=by obtain⟨m,rfl⟩:=h;exact⟨m+n,World.drewN_drewN ..⟩
theorem uu8.below {w w':World} (h:uu8 w w'):Below w.heap.size w w':=by obtain⟨m,rfl⟩:=h;exact jjD (zR) m
theorem Sl.drewV {α:Type} {T:Ty α} {F:Nat->Prop} {w w':World} {A:Option Addr} {n c:Nat} {xs:List α} (h:Sl T F w A n c xs) (hm:uu8 w w'):Sl T F w' A n c xs:=by
 obtain⟨m,rfl⟩:=hm;exact h.drewN m
theorem uu9 (F F':Nat->Prop) (A A':Option Addr) (n c n' c':Nat) (l:List VV) (w:World) (h:Sl tVV F w A n c l) (h':Sl tVV F' w A' n' c' l) :
 Calls Tryz.prog 35 #[.slice A n c,.slice A' n' c'] w fun e w'=>e=.returned (.bool true)/\uu8 w w':=by
 obtain rfl:n'=n:=by rw [h.len,h'.len]
 have HL:=zH h.len
 have hmax:n'<=9223372036854775807:=by have h2:=h.2.1;have h3:=h.2.2.1;unfold maxLen at h3;omega
 go_enter Tryz.func35,Tryz.ntmps35
 go_wp2
 go_loopw [5] (fun i wr=>∃ k:Nat,k<=n'/\i=.int .i64 k/\uu8 w wr) (fun i _=>n' - (intOf i).toNat)
 case atStart=>exact⟨0,Nat.zero_le _,rfl,uu8.refl _⟩
 case round =>
  obtain⟨k,hk,rfl,hm⟩:=hrel
  have g:=h.drewV hm
  have g':=h'.drewV hm
  have HW:=zH hm;clear hm
  by_cases hlt:k<n'
  · have hkl:k<l.length:=by rw [<-HL.out];exact hlt
    obtain⟨v,hv⟩:∃ v,v=l[k]:=⟨_,rfl⟩
    obtain⟨b,o,u,rfl,_,hbl,hu,hc⟩:=g.at_ hkl (by decide)
    obtain⟨b',o',u',rfl,_,hbl',hu',hc'⟩:=g'.at_ hkl (by decide)
    rw [<-hv] at hu hu'
    obtain⟨rfl,_⟩:=hu
    obtain⟨rfl,_⟩:=hu'
    obtain⟨c0,c1,c2⟩:=yyo hc
    obtain⟨d0,d1,d2⟩:=yyo hc'
    clear g g' hc hc' hv
    have hi1:(0:Int)<=(k:Int):=by omega
    have hi2:(k:Int)<(n':Int):=by omega
    go_wp2_with fail
    go_quiet (fail)
    go_wp2_with fail
    go_roundw
    case rel=>exact⟨k+1,by omega,by go_num,xqz HW.out _⟩
    case measure=>simp [intOf];omega
  · obtain rfl:k=n':=by omega
    go_wp2_with fail
    go_ret
    exact⟨rfl,HW.out⟩
end
end Go.Proofs.YtpmglcachffojaaGreatDoor

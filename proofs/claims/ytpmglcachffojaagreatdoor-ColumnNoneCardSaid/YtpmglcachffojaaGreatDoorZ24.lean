/- A part of what None leans on. -/
import Derived.Test.YtpmglcachffojaaGreatDoorZ23
set_option maxRecDepth 100000
set_option maxHeartbeats 16000000
namespace Go.Proofs.YtpmglcachffojaaGreatDoor
section
open Go Go.RowKit
def mayV (k:Int) (v:VV):Bool :=
 if 1<=k/\k<=5 then
  if v.null then decide (v.n=0/\v.s.size=0)
  else if k=1 then decide (v.s.size=0/\(v.n=0∨v.n=1))
  else decide (v.s.size=0)
 else if k=6∨k=7 then
  if v.null then decide (v.n=0/\v.s.size=0)
  else decide (v.n=0/\v.s.size<=300/\(k=7∨Lib.validD v.s.data.toList=true))
 else false
theorem qzt (m:Nat) (h:m<18446744073709551616):IntKind.i64.wrap (m:Int)=0↔m=0:=by
 have e:(m:Int) % 2 ^ 64=m:=Int.emod_eq_of_lt (by omega) (by omega)
 simp only [IntKind.wrap,IntKind.bits,IntKind.signed,e]
 constructor
 · intro h1
   split at h1 <;> omega
 · rintro rfl;rfl
theorem zqF (x:Int) (h0 : -9223372036854775808<=x) (h1:x<=9223372036854775807):(bits .andNot .i64 x 1=0)↔(x=0∨x=1):=by
 have e:bits .andNot .i64 x 1=IntKind.i64.wrap ((BitVec.ofInt 64 x &&& ~~~BitVec.ofInt 64 ((1:Nat):Int)).toNat:Int):=rfl
 have hu:(BitVec.ofInt 64 x).toNat=(x % 18446744073709551616).toNat:=by rw [BitVec.toNat_ofInt];rfl
 rw [e,BitVec.toNat_and,BitVec.toNat_not,hu,ofInt_u64 1 (by omega)]
 have e2:2 ^ 64 - 1 - 1=18446744073709551614:=by decide
 rw [e2,nat_hi64_1,qzt _ (by omega)]
 omega
theorem xxV (s:ByteArray):s=⟨#[]⟩↔s.size=0:=by
 constructor
 · rintro rfl;rfl
 · intro h
   apply ByteArray.ext
   apply Array.eq_empty_of_size_eq_zero
   exact h
theorem jj4 {a b:ByteArray} (h:a.data.toList=b.data.toList):a=b:=by
 cases a;cases b
 congr 1
 exact Array.toList_inj.1 h
theorem qxl {s:ByteArray} (h:¬ s.size=0):(s.toList==ByteArray.toList ⟨#[]⟩)=false/\(s.toList==[])=false/\s.toList.isEmpty=false/\¬ s.toList=[]/\¬ s=⟨#[]⟩:=by
 have h1:¬ s.toList=[]:=by
  rw [ByteArray.toList_eq]
  intro e
  apply h
  have:=congrArg List.length e
  simpa using this
 have h2:s.toList.isEmpty=false:=by cases hq:s.toList with | nil=>exact absurd hq h1 | cons _ _=>rfl
 refine⟨?_,by simpa using h1,h2,h1,fun e=>h (by rw [e];rfl)⟩
 rw [show ByteArray.toList ⟨#[]⟩=[] from by rw [ByteArray.toList_eq]]
 simpa using h1
theorem qxQ (n m:Int) (s t:ByteArray) (b c:Bool) (w:World) :
 (binOp .eql 74 (.agg #[.bool b,.int .i64 n,.string s]) (.agg #[.bool c,.int .i64 m,.string t])).run Tryz.prog w=.ok (.bool (decide (b=c/\n=m/\s=t))) w:=by
 have hS:Tryz.prog.underlying 74=some (.struct (Tryz.prog.fieldsOf 74)):=by kernel_rfl
 have hp:Tryz.prog.stoodInHeld 74=false:=by kernel_rfl
 have u1:=Tryz.underlying4
 have u2:=Tryz.underlying3
 have u3:=Tryz.underlying9
 have a1:=Tryz.isAgg4
 have a2:=Tryz.isAgg3
 have a3:=Tryz.isAgg9
 have z1:=Tryz.sizeOf4
 have z2:=Tryz.sizeOf3
 have z3:=Tryz.sizeOf9
 rw [run_eql_struct,show (10000:Nat)=9999+1 from rfl,run_equalIn_agg w 9999 74 _ _ hS hp]
 simp only [Program.fieldsOf,Tryz.underlying74]
 go_simp
 by_cases h1:b=c <;> by_cases h2:n=m <;> by_cases h3:s=t <;> simp [h1,h2,h3]
 intro h
 rw [ByteArray.toList_eq,ByteArray.toList_eq] at h
 exact h3 (jj4 h)
theorem qzu (k:Int) (v:VV) (w:World) (h:¬ (1<=k/\k<=7)) :
 Calls Tryz.prog 41 #[.int .i64 k,.agg #[.bool v.null,.int .i64 v.n,.string v.s]] w fun e w'=>e=.returned (.bool false)/\Below w.heap.size w w':=by
 have HN:=zH (show decide (1<=k/\k<=5)=false by simp;omega)
 have h6:(k != 6)=true:=bne_iff_ne.2 (by omega)
 have h7:(k != 7)=true:=bne_iff_ne.2 (by omega)
 have h6':¬ k=6:=by omega
 have h7':¬ k=7:=by omega
 clear h
 go_enter Tryz.func41,Tryz.ntmps41
 go_wp2_with (first
  | (go_at_call 44;refine (zze _ _).mono ?_;rintro e w1 ⟨rfl,rfl⟩;rw [HN.out])
  | fail)
 go_ret
 exact⟨rfl,(zR).alloc zN _⟩
theorem uuj (k n:Int) (s:ByteArray) (w:World) (h:1<=k/\k<=5) :
 Calls Tryz.prog 41 #[.int .i64 k,.agg #[.bool true,.int .i64 n,.string s]] w fun e w'=>e=.returned (.bool (decide (n=0/\s.size=0)))/\Below w.heap.size w w':=by
 have HN:=zH (show decide (1<=k/\k<=5)=true by simpa using h)
 clear h
 have he:=fun w=>qxQ n 0 s ⟨#[]⟩ true true w
 have hq:decide (true=true/\n=0/\s=(⟨#[]⟩:ByteArray))=decide (n=0/\s.size=0):=decide_eq_decide.2 (by rw [<-xxV];simp)
 rw [hq] at he
 clear hq
 obtain⟨q,hq⟩:∃ q,q=decide (n=0/\s.size=0):=⟨_,rfl⟩
 rw [<-hq] at he ⊢
 clear hq
 go_enter Tryz.func41,Tryz.ntmps41
 go_wp2_with (first
  | (go_at_call 44;refine (zze _ _).mono ?_;rintro e w1 ⟨rfl,rfl⟩;rw [HN.out])
  | fail)
 go_ret
 exact⟨rfl,(zR).alloc zN _⟩
theorem vvL (n:Int) (s:ByteArray) (w:World) :
 Calls Tryz.prog 41 #[.int .i64 6,.agg #[.bool true,.int .i64 n,.string s]] w fun e w'=>e=.returned (.bool (decide (n=0/\s.size=0)))/\Below w.heap.size w w':=by
 have HN:=zH (show decide ((1:Int)<=6/\(6:Int)<=5)=false by decide)
 skip
 have he:=fun w=>qxQ n 0 s ⟨#[]⟩ true true w
 have hq:decide (true=true/\n=0/\s=(⟨#[]⟩:ByteArray))=decide (n=0/\s.size=0):=decide_eq_decide.2 (by rw [<-xxV];simp)
 rw [hq] at he
 clear hq
 obtain⟨q,hq⟩:∃ q,q=decide (n=0/\s.size=0):=⟨_,rfl⟩
 rw [<-hq] at he ⊢
 clear hq
 go_enter Tryz.func41,Tryz.ntmps41
 go_wp2_with (first
  | (go_at_call 44;refine (zze _ _).mono ?_;rintro e w1 ⟨rfl,rfl⟩;rw [HN.out])
  | fail)
 go_ret
 exact⟨rfl,(zR).alloc zN _⟩
theorem xx7 (n:Int) (s:ByteArray) (w:World) :
 Calls Tryz.prog 41 #[.int .i64 7,.agg #[.bool true,.int .i64 n,.string s]] w fun e w'=>e=.returned (.bool (decide (n=0/\s.size=0)))/\Below w.heap.size w w':=by
 have HN:=zH (show decide ((1:Int)<=7/\(7:Int)<=5)=false by decide)
 skip
 have he:=fun w=>qxQ n 0 s ⟨#[]⟩ true true w
 have hq:decide (true=true/\n=0/\s=(⟨#[]⟩:ByteArray))=decide (n=0/\s.size=0):=decide_eq_decide.2 (by rw [<-xxV];simp)
 rw [hq] at he
 clear hq
 obtain⟨q,hq⟩:∃ q,q=decide (n=0/\s.size=0):=⟨_,rfl⟩
 rw [<-hq] at he ⊢
 clear hq
 go_enter Tryz.func41,Tryz.ntmps41
 go_wp2_with (first
  | (go_at_call 44;refine (zze _ _).mono ?_;rintro e w1 ⟨rfl,rfl⟩;rw [HN.out])
  | fail)
 go_ret
 exact⟨rfl,(zR).alloc zN _⟩
theorem zqG (n:Int) (s:ByteArray) (w:World) (h0 : -9223372036854775808<=n) (h1:n<=9223372036854775807) :
 Calls Tryz.prog 41 #[.int .i64 1,.agg #[.bool false,.int .i64 n,.string s]] w fun e w'=>e=.returned (.bool (decide (s.size=0/\(n=0∨n=1))))/\Below w.heap.size w w':=by
 have HN:=zH (show decide ((1:Int)<=1/\(1:Int)<=5)=true by decide)
 have hbit:=zqF n h0 h1
 clear h0 h1
 by_cases hs:s.size=0
 · have HR:=zH (show decide (s.size=0/\(n=0∨n=1))=decide (n=0∨n=1) by simp [hs])
   obtain rfl:=(xxV s).2 hs
   clear hs
   obtain⟨y,hy⟩:∃ y,bits .andNot .i64 n 1=y:=⟨_,rfl⟩
   rw [hy] at hbit
   by_cases hy0:y=0
   · have HQ:=zH (show decide (n=0∨n=1)=true by simpa using hbit.1 hy0)
     clear hbit
     subst hy0
     go_enter Tryz.func41,Tryz.ntmps41
     go_wp2_with (first
      | (go_at_call 44;refine (zze _ _).mono ?_;rintro e w1 ⟨rfl,rfl⟩;rw [HN.out])
      | fail)
     go_ret
     exact⟨by rw [HR.out,HQ.out];rfl,(zR).alloc zN _⟩
   · have HQ:=zH (show decide (n=0∨n=1)=false by simpa using fun h=>hy0 (hbit.2 h))
     have hyb:=zzA hy0
     clear hbit
     go_enter Tryz.func41,Tryz.ntmps41
     go_wp2_with (first
      | (go_at_call 44;refine (zze _ _).mono ?_;rintro e w1 ⟨rfl,rfl⟩;rw [HN.out])
      | fail)
     go_ret
     exact⟨by rw [HR.out,HQ.out];rfl,(zR).alloc zN _⟩
 · have HR:=zH (show decide (s.size=0/\(n=0∨n=1))=false by simp [hs])
   obtain⟨a1,a2,a3,a4,a5⟩:=qxl hs
   clear hs hbit
   go_enter Tryz.func41,Tryz.ntmps41
   go_wp2_with (first
    | (go_at_call 44;refine (zze _ _).mono ?_;rintro e w1 ⟨rfl,rfl⟩;rw [HN.out])
    | fail)
   go_ret
   exact⟨by first | (rw [HR.out];rfl) | rfl,(zR).alloc zN _⟩
theorem qxR (k n:Int) (s:ByteArray) (w:World) (h:1<=k/\k<=5) (hk1:¬ k=1) :
 Calls Tryz.prog 41 #[.int .i64 k,.agg #[.bool false,.int .i64 n,.string s]] w fun e w'=>e=.returned (.bool (decide (s.size=0)))/\Below w.heap.size w w':=by
 have HN:=zH (show decide (1<=k/\k<=5)=true by simpa using h)
 have hkb:=zzA hk1
 clear h
 by_cases hs:s.size=0
 · have HR:=zH (show decide (s.size=0)=true by simp [hs])
   obtain rfl:=(xxV s).2 hs
   clear hs
   go_enter Tryz.func41,Tryz.ntmps41
   go_wp2_with (first
    | (go_at_call 44;refine (zze _ _).mono ?_;rintro e w1 ⟨rfl,rfl⟩;rw [HN.out])
    | fail)
   go_ret
   exact⟨by first | (rw [HR.out];rfl) | rfl,(zR).alloc zN _⟩
 · have HR:=zH (show decide (s.size=0)=false by simp [hs])
   obtain⟨a1,a2,a3,a4,a5⟩:=qxl hs
   clear hs
   go_enter Tryz.func41,Tryz.ntmps41
   go_wp2_with (first
    | (go_at_call 44;refine (zze _ _).mono ?_;rintro e w1 ⟨rfl,rfl⟩;rw [HN.out])
    | fail)
   go_ret
   exact⟨by first | (rw [HR.out];rfl) | rfl,(zR).alloc zN _⟩
theorem zqH (n:Int) (s:ByteArray) (w:World) (hT:Lib.Utf8Tabs 0 1 w) :
 Calls Tryz.prog 41 #[.int .i64 6,.agg #[.bool false,.int .i64 n,.string s]] w fun e w'=>e=.returned (.bool (decide (n=0/\s.size<=300/\Lib.validD s.data.toList=true)))/\Below w.heap.size w w':=by
 have HN:=zH (show decide ((1:Int)<=6/\(6:Int)<=5)=false by decide)
 have HT:=zH hT;clear hT
 by_cases hn:n=0
 · subst hn
   by_cases hl:s.size<=300
   · have hlI:(s.size:Int)<=300:=by omega
     obtain⟨vd,hvd⟩:∃ vd,vd=Lib.validD s.data.toList:=⟨_,rfl⟩
     have HVD:=zH (show Lib.validD s.data.toList=vd from hvd.symm)
     have HR:=zH (show decide ((0:Int)=0/\s.size<=300/\Lib.validD s.data.toList=true)=vd by rw [<-hvd];simp [hl])
     clear hvd
     go_enter Tryz.func41,Tryz.ntmps41
     go_wp2_with (first
      | (go_at_call 44;refine (zze _ _).mono ?_;rintro e w1 ⟨rfl,rfl⟩;rw [HN.out])
      | (go_at_call 87;refine (qzs s _ (zzh HT.out ((zR).alloc zN _))).mono ?_;rintro e w2 ⟨rfl,hb2⟩;rw [HVD.out];have HB2:=zH hb2;clear hb2)
      | fail)
     go_ret
     exact⟨by rw [HR.out];rfl,(Below.alloc (zR) zN _).trans (HB2.out.mono (Below.alloc (zR) zN _).size)⟩
   · have hlI:¬ (s.size:Int)<=300:=by omega
     have HR:=zH (show (decide ((0:Int)=0/\s.size<=300/\Lib.validD s.data.toList=true))=false by simp [hl])
     go_enter Tryz.func41,Tryz.ntmps41
     go_wp2_with (first
      | (go_at_call 44;refine (zze _ _).mono ?_;rintro e w1 ⟨rfl,rfl⟩;rw [HN.out])
      | fail)
     go_ret
     exact⟨by first | (rw [HR.out];rfl) | rfl,(zR).alloc zN _⟩
 · have hnb:=zzA hn
   have HR:=zH (show (decide (n=0/\s.size<=300/\Lib.validD s.data.toList=true))=false by simp [hn])
   go_enter Tryz.func41,Tryz.ntmps41
   go_wp2_with (first
    | (go_at_call 44;refine (zze _ _).mono ?_;rintro e w1 ⟨rfl,rfl⟩;rw [HN.out])
    | fail)
   go_ret
   exact⟨by first | (rw [HR.out];rfl) | rfl,(zR).alloc zN _⟩
theorem qzv (n:Int) (s:ByteArray) (w:World) :
 Calls Tryz.prog 41 #[.int .i64 7,.agg #[.bool false,.int .i64 n,.string s]] w fun e w'=>e=.returned (.bool (decide (n=0/\s.size<=300)))/\Below w.heap.size w w':=by
 have HN:=zH (show decide ((1:Int)<=7/\(7:Int)<=5)=false by decide)
 skip
 by_cases hn:n=0
 · subst hn
   by_cases hl:s.size<=300
   · have hlI:(s.size:Int)<=300:=by omega
     have HR:=zH (show decide ((0:Int)=0/\s.size<=300)=true by simp [hl])
     go_enter Tryz.func41,Tryz.ntmps41
     go_wp2_with (first
      | (go_at_call 44;refine (zze _ _).mono ?_;rintro e w1 ⟨rfl,rfl⟩;rw [HN.out])
      | fail)
     go_ret
     exact⟨by first | (rw [HR.out];rfl) | rfl,(zR).alloc zN _⟩
   · have hlI:¬ (s.size:Int)<=300:=by omega
     have HR:=zH (show (decide ((0:Int)=0/\s.size<=300))=false by simp [hl])
     go_enter Tryz.func41,Tryz.ntmps41
     go_wp2_with (first
      | (go_at_call 44;refine (zze _ _).mono ?_;rintro e w1 ⟨rfl,rfl⟩;rw [HN.out])
      | fail)
     go_ret
     exact⟨by first | (rw [HR.out];rfl) | rfl,(zR).alloc zN _⟩
 · have hnb:=zzA hn
   have HR:=zH (show (decide (n=0/\s.size<=300))=false by simp [hn])
   go_enter Tryz.func41,Tryz.ntmps41
   go_wp2_with (first
    | (go_at_call 44;refine (zze _ _).mono ?_;rintro e w1 ⟨rfl,rfl⟩;rw [HN.out])
    | fail)
   go_ret
   exact⟨by first | (rw [HR.out];rfl) | rfl,(zR).alloc zN _⟩
theorem qzw (k:Int) (v:VV) (hv:v.ok) (w:World) (hT:Lib.Utf8Tabs 0 1 w) :
 Calls Tryz.prog 41 #[.int .i64 k,.agg #[.bool v.null,.int .i64 v.n,.string v.s]] w fun e w'=>e=.returned (.bool (mayV k v))/\Below w.heap.size w w':=by
 obtain⟨nu,n,s⟩:=v
 obtain⟨h0,h1,_⟩:=hv
 unfold mayV
 by_cases h:1<=k/\k<=5
 · rw [if_pos h]
   cases nu
   · rw [if_neg Bool.false_ne_true]
     by_cases hk:k=1
     · subst hk
       exact zqG n s w h0 h1
     · rw [if_neg hk]
       exact qxR k n s w h hk
   · exact uuj k n s w h
 · rw [if_neg h]
   by_cases h6:k=6
   · subst h6
     cases nu
     · simpa using zqH n s w hT
     · exact vvL n s w
   · by_cases h7:k=7
     · subst h7
       cases nu
       · simpa using qzv n s w
       · exact xx7 n s w
     · rw [if_neg (by omega)]
       exact qzu k ⟨nu,n,s⟩ w (by omega)
end
section
open Go Go.RowKit
theorem OwnV.new0 (w:World) (B:Nat) (hB:B<=w.heap.size):OwnV (w.alloc (.cells #[] 74)) B (some ⟨w.heap.size,0,none⟩) 0 0 []:=by
 have:=World.ownsRow_lit (base:=B) (e:=74) (size:=3) w #[] 0 hB (by simp [maxLen]) (by simp)
 exact⟨by simpa [yyh] using this,by simp⟩
def qzA (l:List VV) (n:Nat) (w:World) (e:Ending) (w':World):Prop:=∃ A' c',e=.returned (.slice A' n c')/\OwnV w' w.heap.size A' n c' l/\Below w.heap.size w w'
theorem qzB (F:Nat->Prop) (A:Option Addr) (n c:Nat) (l:List VV) (w:World) (h:Sl tVV F w A n c l) (hn:n<=34359738368):Calls Tryz.prog 158 #[.slice A n c] w (qzA l n w):=by
 cases A with
 | none =>
   have hl:l=[]:=by
    cases l with
    | nil=>rfl
    | cons x r=>obtain⟨b,o,_,e,_⟩:=h.at_ (k:=0) (by simp) (by decide);cases e
   have hn0:=h.len
   subst hl
   obtain rfl:n=0:=hn0
   have hq:(binOp .eql 22 (.slice none 0 c) (.slice none 0 0)).run Tryz.prog w=.ok (.bool true) w:=Lib.run_eql_slice_nil w _ _ none 0 c 0 0 (show Tryz.prog.underlying 22=some (.slice 74) by kernel_rfl)
   clear h hn
   go_enter Tryz.func158,Tryz.ntmps158
   go_wp2_with fail
   go_ret
   exact⟨none,0,rfl,⟨World.ownsRow_nil _ _ _ _,by simp⟩,zR⟩
 | some a =>
   have hq:(binOp .eql 22 (.slice (some a) n c) (.slice none 0 0)).run Tryz.prog w=.ok (.bool false) w:=Lib.run_eql_slice_nil w _ _ (some a) n c 0 0 (show Tryz.prog.underlying 22=some (.slice 74) by kernel_rfl)
   have HS:=zH ((h.weaken (F':=fun b=>F b/\b<w.heap.size) fun b hb hl=>⟨hb,hl⟩).alloc (.cells #[] 74))
   have HE:=zH (OwnV.new0 w w.heap.size zN).ownF
   clear h
   go_enter Tryz.func158,Tryz.ntmps158
   go_wp2_with (first
    | (at_builtin;refine apl (T:=tVV) qzy (w.alloc (.cells #[] 74)) w rfl (.tmp 5) (.tmp 6) rfl w.heap.size (some ⟨w.heap.size,0,none⟩) 0 0 [] rfl (fun _=>False) (fun b=>F b/\b<w.heap.size) HE.out ((zR).alloc zN _) zN (some a) n c l rfl HS.out (fun b _ h1 _ h3=>by omega) (by omega) ?_;intro A5 c5 w5 h5)
    | fail)
   go_ret
   have ho:=qzz h5.own
   rw [Nat.zero_add,List.nil_append] at ho
   exact⟨A5,c5,rfl,ho,h5.below⟩
def zzp (v:VV):Bool := !v.null
theorem zqK (d:VV) (r:Bool) (hr:r = !zzp d) (w:World):Calls Tryz.prog 159 #[.agg #[.bool d.null,.int .i64 d.n,.string d.s]] w fun e w'=>e=.returned (.bool r)/\Below w.heap.size w w':=by
 have:r=d.null:=by rw [hr];unfold zzp;simp
 rw [this]
 exact jjW _ _ _ _
def yyy (p:VV->Bool) (l:List VV) (r:Int):Prop:=(r = -1/\∀ x∈l,p x=true)∨∃ i:Nat,r=i/\∃ h:i<l.length,(∀ x∈l.take i,p x=true)/\p l[i]=false
def qzC (p:VV->Bool) (l:List VV) (w:World) (e:Ending) (w':World):Prop:=∃ r,e=.returned (.int .i64 r)/\yyy p l r/\Below w.heap.size w w'
theorem qzD (F:Nat->Prop) (A:Option Addr) (n c:Nat) (l:List VV) (w:World) (h:Sl tVV F w A n c l) :
 Calls Tryz.prog 86 #[.slice A n c,.func (.func 159) #[] #[]] w (qzC (zzp) l w):=by
 have HL:=zH h.len
 have hmax:n<=9223372036854775807:=by have h2:=h.2.1;have h3:=h.2.2.1;unfold maxLen at h3;omega
 go_enter Tryz.func86,Tryz.ntmps86
 go_wp2_with fail
 go_loopw [8] (fun i wr=>∃ j:Nat,j<=n/\i=.int .i64 j/\Below w.heap.size w wr/\Hid (∀ x∈l.take j,zzp x=true)) (fun i _=>n - (intOf i).toNat)
 case atStart=>exact⟨0,Nat.zero_le _,rfl,zR,zH (by simp)⟩
 case round =>
  obtain⟨j,hj,rfl,hb,HA⟩:=hrel
  have g:=h.below hb zN
  have HB:=zH hb
  have hsz:=hb.size
  clear hb
  by_cases hlt:j<n
  · have hjl:j<l.length:=by rw [<-HL.out];exact hlt
    obtain⟨d,hd⟩:∃ d,d=l[j]:=⟨_,rfl⟩
    obtain⟨b,o,u,rfl,_,hbl,hu,hc⟩:=g.at_ hjl (by decide)
    rw [<-hd] at hu
    obtain⟨rfl,_⟩:=hu
    obtain⟨c0,c1,c2⟩:=yyo hc
    obtain⟨r,hr⟩:∃ r,r = !zzp d:=⟨_,rfl⟩
    have HD:=zH hd;have HR:=zH hr
    clear g hc hd hr
    have hi1:(0:Int)<=(j:Int):=by omega
    have hi2:(j:Int)<(n:Int):=by omega
    cases r with
    | true =>
      have HF:Hid (yyy (zzp) l (j:Int)):=zH (.inr ⟨j,rfl,hjl,HA.out,by rw [<-HD.out];have:=HR.out;simpa using this⟩)
      go_wp2_with (first
       | (go_at_call 159;refine (zqK d true HR.out _).mono ?_;rintro e w1 ⟨rfl,hb1⟩;have HB1:=zH (HB.out.trans (hb1.mono hsz));clear hb1)
       | fail)
      go_ret
      exact⟨_,rfl,HF.out,HB1.out⟩
    | false =>
      have HN:Hid (∀ x∈l.take (j+1),zzp x=true):=zH (by
       intro x hx
       rw [zT hjl,List.mem_append,List.mem_singleton] at hx
       rcases hx with hx | rfl
       · exact HA.out x hx
       · rw [<-HD.out];have:=HR.out;simpa using this)
      go_wp2_with (first
       | (go_at_call 159;refine (zqK d false HR.out _).mono ?_;rintro e w1 ⟨rfl,hb1⟩;have HB1:=zH (HB.out.trans (hb1.mono hsz));clear hb1)
       | fail)
      go_roundw
      case rel=>exact⟨j+1,by omega,by go_num,HB1.out,HN⟩
      case measure=>simp [intOf];omega
  · obtain rfl:j=n:=by omega
    have HF:Hid (yyy (zzp) l (-1)):=zH (.inl ⟨rfl,by
     have:=HA.out
     rwa [zL (by rw [<-HL.out];exact Nat.le_refl _)] at this⟩)
    go_wp2_with fail
    go_ret
    exact⟨_,rfl,HF.out,HB.out⟩
end
section
open Go Go.RowKit
structure Part (p:VV->Bool) (l R:List VV) (i j:Nat):Prop where
 len:R.length=l.length
 kept:R.take i=(l.take j).filter p
 rest:R.drop j=l.drop j
 lt:i<j
 le:j<=l.length
theorem Part.get {p:VV->Bool} {l R:List VV} {i j:Nat} (h:Part p l R i j) (hj:j<l.length):R[j]'(by rw [h.len];exact hj)=l[j]:=by
 have e:=h.rest
 have e1:(R.drop j)[0]?=(l.drop j)[0]?:=by rw [e]
 rw [List.getElem?_drop,List.getElem?_drop,Nat.add_zero,List.getElem?_eq_getElem (by rw [h.len];exact hj),List.getElem?_eq_getElem hj] at e1
 exact Option.some.inj e1
theorem Part.skip {p:VV->Bool} {l R:List VV} {i j:Nat} (h:Part p l R i j) (hj:j<l.length) (hp:p l[j]=false):Part p l R i (j+1):=by
 refine⟨h.len,?_,?_,by have:=h.lt;omega,hj⟩
 · rw [zT hj,List.filter_append]
   simp [hp,h.kept]
 · rw [<-List.drop_drop,<-List.drop_drop,h.rest]
theorem Part.keep {p:VV->Bool} {l R:List VV} {i j:Nat} (h:Part p l R i j) (hj:j<l.length) (hp:p l[j]=true):Part p l (R.set i l[j]) (i+1) (j+1):=by
 have hlt:=h.lt
 have hl:=h.len
 refine⟨by rw [List.length_set];exact hl,?_,?_,by omega,hj⟩
 · rw [zT hj,List.filter_append,<-h.kept]
   rw [zT (by rw [List.length_set];omega),List.take_set_of_le zN,List.getElem_set_self]
   simp [hp]
 · rw [List.drop_set_of_lt (by omega),<-List.drop_drop,<-List.drop_drop,h.rest]
theorem jj8 {p:VV->Bool} {l:List VV} {i:Nat} (hi:i<l.length) (h1:∀ x∈l.take i,p x=true) (h2:p l[i]=false):Part p l l i (i+1):=by
 refine⟨rfl,?_,rfl,by omega,hi⟩
 rw [zT hi,List.filter_append,List.filter_eq_self.2 h1]
 simp [h2]
theorem zqL {p:VV->Bool} {l R:List VV} {i j:Nat} (h:Part p l R i j) (hj:j=l.length):R.take i=l.filter p:=by
 rw [h.kept,hj,List.take_length]
def qxS (p:VV->Bool) (l:List VV) (B:Nat) (A:Option Addr) (c:Nat) (w:World) (e:Ending) (w':World):Prop:=∃ m,e=.returned (.slice A m c)/\OwnV w' B A m c (l.filter p)/\Below B w w'
theorem qxT (B:Nat) (A:Option Addr) (n c:Nat) (l:List VV) (w:World) (h:OwnV w B A n c l) (hB:B<=w.heap.size) :
 Calls Tryz.prog 157 #[.slice A n c,.func (.func 159) #[] #[]] w (qxS (zzp) l B A c w):=by
 have H:=zH h
 have HL:=zH h.len
 have hcap:=h.cap
 have hmax:n<=9223372036854775807:=by have h3:=hcap.2;unfold maxLen at h3;omega
 have hncap:=hcap.1
 clear h hcap
 by_cases hall:∀ x∈l,zzp x=true
 · have HF:Hid (l.filter (zzp)=l):=zH (List.filter_eq_self.2 hall)
   have HALL:=zH hall
   clear hall
   go_enter Tryz.func157,Tryz.ntmps157
   go_wp2_with (first
    | (go_at_call 86;refine (qzD _ A n c l _ H.out.sl).mono ?_;rintro e w1 ⟨r,rfl,hr,hb1⟩;obtain rfl:r = -1:=(by rcases hr with ⟨h1,_⟩ | ⟨i,h1,h2,h3,h4⟩;exact h1;have:=HALL.out _ (List.getElem_mem h2);rw [h4] at this;cases this);have HB1:=zH hb1;clear hr hb1)
    | fail)
   go_ret
   exact⟨n,rfl,by rw [HF.out];exact H.out.keepB HB1.out,HB1.out.mono hB⟩
 · have hpos:0<n:=by
    rw [HL.out]
    cases l with
    | nil=>exact absurd (fun x hx=>by simp at hx) hall
    | cons _ _=>simp
   obtain⟨g,rfl⟩:∃ g,A=some ⟨g,0,none⟩:=by
    rcases H.out.row.2 with ⟨_,h2⟩ | ⟨g,cap,cur,h1,_⟩
    · omega
    · injection h1 with h1;exact⟨g,h1⟩
   have HALL:=zH hall
   clear hall
   have hgB:=H.out.base.1
   go_enter Tryz.func157,Tryz.ntmps157
   go_wp2_with (first
    | (go_at_call 86;refine (qzD _ _ n c l _ H.out.sl).mono ?_;rintro e w1 ⟨r,rfl,hr,hb1⟩;obtain⟨i0,rfl,hi0,hk0,hd0⟩:∃ i:Nat,r=i/\∃ h:i<l.length,(∀ x∈l.take i,zzp x=true)/\zzp l[i]=false:=(by rcases hr with ⟨_,h1⟩ | h1;exact absurd h1 HALL.out;exact h1);have HP0:=zH (jj8 hi0 hk0 hd0);have HB1:=zH hb1;have hi0n:i0<n:=(by rw [HL.out];exact hi0);have hq0:((i0:Int) == -1)=false:=zzA (by omega);clear hr hb1 hk0 hd0 hi0)
    | fail)
   go_loopw [5,6] (fun iv jv wr=>∃ (i j:Nat) (R:List VV),iv=.int .i64 (i:Int)/\jv=.int .i64 (j:Int)/\Hid (Part (zzp) l R i j)/\OwnV wr B (some ⟨g,0,none⟩) n c R/\Below B w wr)
    (fun _ jv _=>n - (intOf jv).toNat)
   case atStart=>exact⟨i0,i0+1,l,rfl,by go_num,HP0,H.out.keepB HB1.out,HB1.out.mono hB⟩
   case round =>
    obtain⟨i,j,R,rfl,rfl,HP,hown,hb⟩:=hrel
    have HO:=zH hown
    have HB:=zH hb
    have hij:i<j:=HP.out.lt
    have hjn:j<=n:=by have:=HP.out.le;rw [<-HL.out] at this;exact this
    have hsz:=hb.size
    have hBr:B<=wr.heap.size:=by omega
    clear hown hb HP0 HB1 hq0
    by_cases hlt:j<n
    · have hjl:j<l.length:=by rw [<-HL.out];exact hlt
      have hjR:j<R.length:=by rw [HP.out.len];exact hjl
      have hget:=HP.out.get hjl
      obtain⟨d,hd⟩:∃ d,d=l[j]:=⟨_,rfl⟩
      obtain⟨c0,c1,c2⟩:=HO.out.cell hjR
      rw [hget,<-hd] at c0 c1 c2
      have hdok:d.ok:=by rw [hd,<-hget];exact HO.out.ok _ (List.getElem_mem hjR)
      have HDOK:=zH hdok
      obtain⟨r,hr⟩:∃ r,r = !zzp d:=⟨_,rfl⟩
      have HD:=zH hd;have HR:=zH hr
      clear hd hr hget hdok
      have hi1:(0:Int)<=(j:Int):=by omega
      have hi2:(j:Int)<(n:Int):=by omega
      cases r with
      | true =>
        have HP2:=zH (HP.out.skip hjl (by rw [<-HD.out];have:=HR.out;simpa using this))
        go_wp2_with (first
         | (go_at_call 159;refine (zqK d true HR.out _).mono ?_;rintro e w1 ⟨rfl,hb1⟩;have HB2:=zH (((Below.refl _ wr).alloc zN _).trans (hb1.mono (by simp)));clear hb1)
         | fail)
        go_roundw
        case rel=>exact⟨i,j+1,R,rfl,by go_num,HP2,HO.out.keepB HB2.out,HB.out.trans (HB2.out.mono hBr)⟩
        case measure=>simp [intOf];omega
      | false =>
        have HP2:=zH (HP.out.keep hjl (by rw [<-HD.out];have:=HR.out;simpa using this))
        have hiR:i<R.length:=by omega
        have hi3:(0:Int)<=(i:Int):=by omega
        have hi4:(i:Int)<(n:Int):=by omega
        obtain⟨e0,e1,e2⟩:=HO.out.cell hiR
        go_wp2_with (first
         | (go_at_call 159;refine (zqK d false HR.out _).mono ?_;rintro e w1 ⟨rfl,hb1⟩;have HB2:=zH (show Below wr.heap.size wr w1 from ((Below.refl _ wr).alloc zN _).trans (hb1.mono (by simp)));have HK2:=zH (show w1.heap[wr.heap.size]?=some (.cells #[.bool d.null,.int .i64 d.n,.string d.s] 74 (0,0)) from (hb1.block _ (by simp)).trans (heap_alloc_new wr _));have HO2:=zH (HO.out.keepB HB2.out);have z0:w1.cell? ⟨wr.heap.size,0,none⟩=some (.bool d.null):=(by rw [zC HK2.out];rfl);have z1:w1.cell? ⟨wr.heap.size,1,none⟩=some (.int .i64 d.n):=(by rw [zC HK2.out];rfl);have z2:w1.cell? ⟨wr.heap.size,2,none⟩=some (.string d.s):=(by rw [zC HK2.out];rfl);have y0:=zzt HB2.out e0;have y1:=zzt HB2.out e1;have y2:=zzt HB2.out e2;have f0:=HO2.out.free (i*3);have f1:=HO2.out.free (i*3+1);have f2:=HO2.out.free (i*3+2);clear hb1)
         | fail)
        go_roundw
        case rel =>
         have ho:=HO2.out.set (i:=i) hiR d HDOK.out
         exact⟨i+1,j+1,R.set i d,by go_num,by go_num,by rw [HD.out];exact HP2,ho,zzn (zzn (zzn (HB.out.trans (HB2.out.mono hBr)) hgB _) hgB _) hgB _⟩
        case measure=>simp [intOf];omega
    · obtain rfl:j=n:=by omega
      have hRl:R.length=j:=HP.out.len.trans HL.out.symm
      obtain⟨vs,hcl⟩:=jj7 wr g (i*3) (j - i) (c - i) (by omega) (fun q hq=>by
       rw [HO.out.row.cellAt (i*3+q) (by omega),List.getElem?_eq_getElem (by rw [yyi,hRl];omega)];rfl) (fun q _=>HO.out.free _)
      have hcl0:=hcl 0
      have HFR:=zH (((HO.out.front (k:=i) (by omega) (by simp)).past vs (i*3) zN))
      have HFE:=zH (zqL HP.out HL.out)
      clear hcl hRl
      go_wp2_with fail
      go_ret
      exact⟨i,rfl,by rw [<-HFE.out];exact HFR.out,yyJ hgB _ _ _ HB.out⟩
end
end Go.Proofs.YtpmglcachffojaaGreatDoor

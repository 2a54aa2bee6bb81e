/- A range over a function whose iterator turns cells of its own (a captured variable) between two rounds: R says what it may do to the world; the caller's invariant must abide that. word.set, Places: the bits that are set, one behind the other. word.set's iterator. slices.Collect over word.set: word.Places. -/
import Derived.Test.YtoolenhnhlfhmaaGreatDoorGA
import Derived.RangeFuncNested
import Derived.RangeFuncBound
import Derived.RangeFuncCalls
import Derived.RangeFuncLeaves
import Derived.RangeFuncBox
import Derived.Shelf.Abstract
import Derived.Shelf.RegionOpen
import Derived.OwnWalkIn
import Derived.TacticsInMore
import Derived.LoopNIn
import Derived.LoopIn
import Derived.Test.YtoolenhnhlfhmaaGreatDoorRows
import Derived.Lib.TrailingZeros
import Derived.Laws.Bits64b
import Derived.Maps.AppendAt
namespace Go.Proofs.YtoolenhnhlfhmaaGreatDoor
open Go.RowKit
set_option linter.unusedVariables false
set_option linter.unusedSimpArgs false
/-- What an iterator of elements α owes: its own steps are R; a round that goes on keeps Kp. -/
def SeqR {α : Type} (n : Nat) (P : Program) (g : Nat) (lb : Array Value) (encs : α→Array Value) (R Kp : World→World→Prop) (S Sp : List α→Prop) (N : Nat) (w : World) : Prop :=
 ∀ (l : Nat) (J Jx : List α→World→Prop) (W : World),Below w.heap.size w W→(∀ s A B,J s A→R A B→J s B)→(∀ s A B,Jx s A→R A B→Jx s B) →
  (∀ pre x W1,J pre W1→pre.length < N→YieldAt Fence.wide (n - 1) P l (encs x) W1 fun e W' =>
   (e=.returned (.bool true)∧J (pre ++ [x]) W'∧Kp W1 W')∨(e=.returned (.bool false)∧Jx (pre ++ [x]) W')) →
  J [] W →
  CallsIn Fence.wide n P g (#[.func (.yield l) #[] #[]] ++ lb) W fun e W'=>(∃ v,e=.returned v)∧((∃ xs,S xs∧J xs W')∨(∃ pre,Sp pre∧Jx pre W'))
theorem rangeR {α : Type} {n : Nat} {P : Program} {g : Operand} {ps : Array Tmp} {assign body : Code} {Q : Exit→Act→World→Prop} {a : Act} {w : World}
  (h1 : 1≤n) {gf : Nat} {lb : Array Value} (hg : a.eval g=.func (.func gf) #[] lb) (eg : ∀ args w,(callFunc gf args).run P w=.ok (.enter gf args) w)
  {encs : α→Array Value} {R Kp : World→World→Prop} {S Sp : List α→Prop} {N : Nat} (hseq : SeqR (n - 1) P gf lb encs R Kp S Sp N w)
  (hRk : ∀ A B,R A B→KeepsFrom w.heap.size A B) (hps : ∀ x,(encs x).size=ps.size)
  (hKt : ∀ {A B C : World},Kp A B→Kp B C→Kp A C) (hKb : ∀ (W : World) (l : Nat) (o o' : Obj),w.heap.size≤l→W.heap[l]?=some o→o.isCells=false→o.isWalk=false→Kp W (W.putObj l o'))
  (I : List α→World→Prop) (Ix : Code→List α→World→Prop) (hI : OwnFrom w.heap.size I) (hIx : ∀ c,OwnFrom w.heap.size (Ix c)) (hIR : ∀ s A B,I s A→R A B→I s B) (hIxR : ∀ c s A B,Ix c s A→R A B→Ix c s B) (h0 : I [] w)
  (Ax : α→Act→World→Prop) (hAx : ∀ x a',OwnFrom w.heap.size (fun (_ : Unit) W=>Ax x a' W))
  (hassign : ∀ (l : Nat) (pre : List α) (x : α) (W : World) (K : Act→World→Prop),I pre W→(∀ a' W',KeepsFrom w.heap.size W W'→Kp W W'→I pre W'→Ax x a' W'→K a' W') →
   assign.wpIn (Fence.wide.inRound l) (n - 1 - 1) P (Exit.then K (fun _ _ _=>False)) { tmps:=(ps.zip (encs x)).foldl (fun t (p,v)=>t.setIfInBounds p v) a.tmps,defers:=[] } W)
  (hbody : ∀ (l : Nat) (pre : List α) (x : α) (a' : Act) (W : World),w.heap.size≤l→(∃ r,W.heap[l]?=some (.loop r))→I pre W→Ax x a' W→pre.length < N→body.wpIn (Fence.wide.inRound l) (n - 1 - 1) P (ownPostG w.heap.size Kp I Ix (pre ++ [x]) W) a' W)
  (hdone : ∀ (D : Nat) (xs : List α) (W : World),w.heap.size≤D→S xs→I xs W→W.heap[D]?=some (.deferred (some []))→Q .normal { a with defers:={ target:=.collected D,args:=#[] } :: a.defers } W)
  (hstop : ∀ (D : Nat) (c : Code) (pre : List α) (W : World),w.heap.size≤D→Sp pre→Ix c pre W→W.heap[D]?=some (.deferred (some []))→c.wpIn Fence.wide n P Q { a with defers:={ target:=.collected D,args:=#[] } :: a.defers } W) :
  (Code.rangeFunc g ps assign body).wpIn Fence.wide n P Q a w:=by
 refine wpIn_rangeFunc ?_
 intro fn hfn
 rw [show Fence.wide.round=none from rfl]
 obtain ⟨D,hD⟩ : ∃ D,w.heap.size=D:=⟨_,rfl⟩
 obtain ⟨rec,hrec⟩ : ∃ rec : LoopState→Option Code→Loop,rec=fun st pe=>{ state:=st,pending:=pe,fn,tmps:=a.tmps,params:=ps,assign,body,defers:=D }:=⟨_,rfl⟩
 have hk0 : (w.alloc (.deferred (some []))).heap[D]?=some (.deferred (some [])):=by rw [← hD]; exact World.alloc_heap_new w _
 have hl0 : ((w.alloc (.deferred (some []))).alloc (.loop (rec .ready none))).heap[D + 1]?=some (.loop (rec .ready none)):=by
  have h:=World.alloc_heap_new (w.alloc (.deferred (some []))) (.loop (rec .ready none))
  rw [World.size_alloc,hD] at h
  exact h
 have hk1 : ((w.alloc (.deferred (some []))).alloc (.loop (rec .ready none))).heap[D]?=some (.deferred (some [])):=(Below.heap_alloc _ _ _ (by simp; omega)).trans hk0
 have hi1 : I [] ((w.alloc (.deferred (some []))).alloc (.loop (rec .ready none))):=hI.alloc _ (hI.alloc _ h0)
 have hb1 : Below w.heap.size w ((w.alloc (.deferred (some []))).alloc (.loop (rec .ready none))):=((Below.refl _ w).alloc (Nat.le_refl _) _).alloc (by simp) _
 have hrun : (Instr.enterLoop fn a.tmps ps assign body none).run P w=.ok (D + 1,[{ target:=.collected D,args:=#[] }]) ((w.alloc (.deferred (some []))).alloc (.loop (rec .ready none))):=by
  rw [hrec,← hD]; exact run_enterLoop_outer _ _ _ _ _
 obtain ⟨W1,hW1⟩ : ∃ W1,(w.alloc (.deferred (some []))).alloc (.loop (rec .ready none))=W1:=⟨_,rfl⟩
 rw [hW1] at hl0 hk1 hi1 hb1 hrun
 rw [hD] at hRk hKb hI hIx hAx hassign hbody hdone hstop
 refine ⟨D + 1,[{ target:=.collected D,args:=#[] }],W1,{ target:=.fn (.func gf) lb,args:=#[.func (.yield (D + 1)) #[] #[]] },W1,gf,#[.func (.yield (D + 1)) #[] #[]] ++ lb,W1,hrun,?_,?_,?_,fun _=>h1,?_⟩
 ·simp only [resolve,hg]
  simp [go_sem]
 ·intro f' _; exact trivial
 ·simp [invoke,go_sem,eg]
 refine (hseq (D + 1)
  (fun pre W=>I pre W∧W.heap[D + 1]?=some (.loop (rec .ready none))∧W.heap[D]?=some (.deferred (some [])))
  (fun pre W=>∃ c,Ix c pre W∧W.heap[D + 1]?=some (.loop (rec .done (some c)))∧W.heap[D]?=some (.deferred (some [])))
  W1 hb1
  (fun s A B hs hr=>⟨hIR s A B hs.1 hr,(hRk A B hr).same _ _ (by omega) hs.2.1 rfl,(hRk A B hr).same _ _ (Nat.le_refl _) hs.2.2 rfl⟩)
  (fun s A B hs hr=>by
   obtain ⟨c,hc,hl,hk⟩:=hs
   exact ⟨c,hIxR c s A B hc hr,(hRk A B hr).same _ _ (by omega) hl rfl,(hRk A B hr).same _ _ (Nat.le_refl _) hk rfl⟩)
  ?_ ⟨hi1,hl0,hk1⟩).mono ?_
 ·-- one round
  rintro pre x V ⟨hi,hl,hk⟩ hlen
  have hy:=run_yield (P:=P) (args:=encs x) hl (by rw [hrec]; exact hps x)
  rw [hrec] at hy
  refine ⟨fn,_,assign,body,hy,roundIn_of_wpIn hfn (hassign _ pre x V _ hi ?_)⟩
  clear hy
  intro a' W hkf hkp hia hax
  have hlW:=hkf.same _ _ (by omega) hl rfl
  have hkW:=hkf.same _ _ (Nat.le_refl _) hk rfl
  have hlt : D + 1 < W.heap.size:=(Array.getElem?_eq_some_iff.1 hlW).1
  refine ⟨_,run_beginRound hlW (by rw [hrec]),?_⟩
  obtain ⟨X,hX⟩ : ∃ X,W.putObj (D + 1) (.loop { rec .ready none with state:=.busy })=X:=⟨_,rfl⟩
  have hlX : X.heap[D + 1]?=some (.loop { rec .ready none with state:=.busy }):=by rw [← hX]; exact World.putObj_heap_same hlt
  have hkX : X.heap[D]?=some (.deferred (some [])):=by rw [← hX]; exact (World.putObj_heap_other (by omega)).trans hkW
  have hpX : Kp W X:=by rw [← hX]; exact hKb _ _ _ _ (by omega) hlW rfl rfl
  have hiX : I pre X:=by rw [← hX]; exact hI.putObj _ hia (by omega) hlW rfl
  have haX : Ax x a' X:=by rw [← hX]; exact (hAx x a').putObj (s:=()) _ hax (by omega) hlW rfl
  rw [hX]
  have fin : ∀ (jump : Option Code) (W3 : World),KeepsFrom D X W3 →
    (Instr.endRound (D + 1) jump).run P W3=.ok (.bool jump.isNone) (W3.putObj (D + 1) (.loop (rec (if jump.isNone then .ready else .done) jump))) ∧
    W3.heap[D + 1]?=some (.loop { rec .ready none with state:=.busy }) ∧
    (W3.putObj (D + 1) (.loop (rec (if jump.isNone then .ready else .done) jump))).heap[D + 1]?=some (.loop (rec (if jump.isNone then .ready else .done) jump)) ∧
    (W3.putObj (D + 1) (.loop (rec (if jump.isNone then .ready else .done) jump))).heap[D]?=some (.deferred (some [])):=fun jump W3 hk3=>by
   have hl3:=hk3.same _ _ (by omega) hlX rfl
   have hrn:=run_endRound (P:=P) jump hl3
   rw [hrec] at hrn ⊢
   exact ⟨hrn,by rw [hrec] at hl3; exact hl3,World.putObj_heap_same (Array.getElem?_eq_some_iff.1 hl3).1,(World.putObj_heap_other (by omega)).trans (hk3.same _ _ (Nat.le_refl _) hkX rfl)⟩
  refine wpIn_mono (hbody _ pre x a' X (by omega) ⟨_,hlX⟩ hiX haX hlen) ?_
  rintro e a3 W3 hp
  cases e with
  | normal =>
   obtain ⟨hk3,hkp3,hi3⟩:=hp
   obtain ⟨hr,hl3,hl4,hk4⟩:=fin none W3 hk3
   exact ⟨_,_,hr,.inl ⟨rfl,⟨hI.putObj _ hi3 (by omega) hl3 rfl,hl4,hk4⟩,hKt hkp (hKt (hKt hpX hkp3) (hKb _ _ _ _ (by omega) hl3 rfl rfl))⟩⟩
  | ret =>
   obtain ⟨hk3,hi3⟩:=hp
   obtain ⟨hr,hl3,hl4,hk4⟩:=fin (some .ret) W3 hk3
   exact ⟨_,_,hr,.inr ⟨rfl,.ret,(hIx _).putObj _ hi3 (by omega) hl3 rfl,hl4,hk4⟩⟩
  | exit id =>
   obtain ⟨hk3,hi3⟩:=hp
   obtain ⟨hr,hl3,hl4,hk4⟩:=fin (some (.exit id)) W3 hk3
   exact ⟨_,_,hr,.inr ⟨rfl,.exit id,(hIx _).putObj _ hi3 (by omega) hl3 rfl,hl4,hk4⟩⟩
  | goto t =>
   obtain ⟨hk3,hi3⟩:=hp
   obtain ⟨hr,hl3,hl4,hk4⟩:=fin (some (.goto t)) W3 hk3
   exact ⟨_,_,hr,.inr ⟨rfl,.goto t,(hIx _).putObj _ hi3 (by omega) hl3 rfl,hl4,hk4⟩⟩
  | panic ch=>exact hp.elim
  | outgrown=>exact hp.elim
 ·-- behind the iterator
  rintro e W2 ⟨⟨v,rfl⟩,(⟨xs,hS,hi,hl,hk⟩ | ⟨pre,hSp,c,hi,hl,hk⟩)⟩
  ·exact ⟨none,_,by have h:=run_endLoop (P:=P) hl (by rw [hrec]; simp); rw [hrec] at h; exact h,hdone _ xs _ (Nat.le_refl _) hS (hI.putObj _ hi (by omega) hl rfl) ((World.putObj_heap_other (by omega)).trans hk)⟩
  ·exact ⟨some c,_,by have h:=run_endLoop (P:=P) hl (by rw [hrec]; simp); rw [hrec] at h; exact h,hstop _ c pre _ (Nat.le_refl _) hSp ((hIx c).putObj _ hi (by omega) hl rfl) ((World.putObj_heap_other (by omega)).trans hk)⟩
theorem blk_own {β : Type} (B : Nat) (t : TypeId) (f : β→Array Value) : Own (fun s W=>Blk W B t (f s)):=fun s X Y row hs hg hrow=>hs.grown hg (fun e'=>by obtain ⟨o,ho,hc⟩:=hrow B e'.symm; rw [show X.heap[B]?=_ from hs] at ho; cases ho; cases hc)
theorem ownFrom_size {β : Type} (B n : Nat) : OwnFrom B (fun (_ : β) W=>n≤W.heap.size):=fun _ _ _ _ hs hg _=>Nat.le_trans hs hg.size
theorem ownS_own {β : Type} (base : Nat) (e : TypeId) (size : Nat) (v : Value) (n : Nat) (F : β→Nat→Value) : Own (fun s W=>OwnS W base e size v n (F s)):=fun s X Y row hs hg hrow=>World.ownsRow.kept hs hg (by
 rcases hs.2 with ⟨h,_⟩ | ⟨g,cap,cur,h,_,hh,_⟩
 ·rw [h]; exact .inl rfl
 ·refine .inr fun e'=>?_
  rw [h] at e'
  obtain ⟨o,ho,hc⟩:=hrow g e'.symm
  rw [hh] at ho; cases ho; cases hc)
theorem Boxed_far {W : World} {B : Nat} {t : TypeId} {v : Value} (h : Boxed W B t v) {p : Addr} (hp : B≠p.block) (u : Value) : Boxed (W.setCell p u) B t v:=(Below.heap_setCell W p u B hp).trans h
/-- Blocks laid one behind the other. -/
theorem allocs_size (os : List Obj) : ∀ w : World,(os.foldl World.alloc w).heap.size=w.heap.size + os.length:=by
 induction os with
 | nil=>intro w; rfl
 | cons o os ih=>intro w; rw [List.foldl_cons,ih,World.size_alloc,List.length_cons]; omega
theorem allocs_ext (os : List Obj) : ∀ w : World,Ext w (os.foldl World.alloc w):=by
 induction os with
 | nil=>intro w; exact Ext.refl w
 | cons o os ih=>intro w; exact ((Ext.refl w).alloc o).trans (ih _)
theorem allocs_get (os : List Obj) : ∀ (w : World) (i : Nat) (o : Obj),os[i]?=some o→(os.foldl World.alloc w).heap[w.heap.size + i]?=some o:=by
 induction os with
 | nil=>intro w i o h; simp at h
 | cons a os ih =>
  intro w i o h
  cases i with
  | zero =>
   simp at h; subst h
   exact ((allocs_ext os (w.alloc a)).block _ (by simp)).trans (World.alloc_heap_new w a)
  | succ i =>
   have h2:=ih (w.alloc a) i o (by simpa using h)
   rw [World.size_alloc] at h2
   rw [show w.heap.size + (i + 1)=w.heap.size + 1 + i by omega]
   exact h2
attribute [local go_sem] Oper.semAt_some
/-! bits -/
def places (x : Nat) : List Nat:=(List.range 64).filter (fun i=>x.testBit i)
theorem places_zero : places 0=[]:=by unfold places; simp
theorem range_cut {k : Nat} (h : k < 64) : List.range 64=List.range k ++ (k :: List.range' (k + 1) (63 - k)):=by
 rw [List.range_eq_range',List.range_eq_range',show 64=k + (1 + (63 - k)) by omega,← List.range'_append_1]
 rw [Nat.add_comm 1,List.range'_succ]
 simp
theorem low_and {x m k : Nat} (hx : x=2 ^ k * (2 * m + 1)) : ∀ i,(x &&& (x - 1)).testBit i=(x.testBit i && decide (i≠k)):=by
 intro i
 have hp : 0 < 2 ^ k:=Nat.two_pow_pos k
 have h1 : x - 1=2 ^ k * (2 * m) + (2 ^ k - 1):=by rw [hx,Nat.mul_add,Nat.mul_one]; omega
 have e1 : x.testBit i=if i < k then (0 : Nat).testBit i else (2 * m + 1).testBit (i - k):=by
  have t:=Nat.testBit_two_pow_mul_add (2 * m + 1) (b:=0) (i:=k) hp i
  rw [Nat.add_zero] at t
  rw [hx]; exact t
 have e2 : (x - 1).testBit i=if i < k then (2 ^ k - 1).testBit i else (2 * m).testBit (i - k):=by
  rw [h1]; exact Nat.testBit_two_pow_mul_add (2 * m) (b:=2 ^ k - 1) (i:=k) (by omega) i
 rw [Nat.testBit_and,e1,e2]
 by_cases hi : i < k
 ·simp [hi]
 ·rw [if_neg hi,if_neg hi]
  by_cases he : i=k
  ·subst he; simp [Nat.testBit_zero]
  ·obtain ⟨j,rfl⟩ : ∃ j,i=k + (j + 1):=⟨i - k - 1,by omega⟩
   rw [show k + (j + 1) - k=j + 1 by omega,Nat.testBit_succ,Nat.testBit_succ,show (2 * m + 1) / 2=m by omega,show 2 * m / 2=m by omega]
   cases m.testBit j <;> simp
theorem low_bits {x m k : Nat} (hx : x=2 ^ k * (2 * m + 1)) : x.testBit k=true∧∀ i,i < k→x.testBit i=false:=by
 have e1 : ∀ i,x.testBit i=if i < k then (0 : Nat).testBit i else (2 * m + 1).testBit (i - k):=fun i=>by
  have t:=Nat.testBit_two_pow_mul_add (2 * m + 1) (b:=0) (i:=k) (Nat.two_pow_pos k) i
  rw [Nat.add_zero] at t
  rw [hx]; exact t
 refine ⟨?_,fun i hi=>?_⟩
 ·rw [e1,if_neg (by omega)]; simp [Nat.testBit_zero]
 ·rw [e1,if_pos hi]; simp
theorem places_step {x : Nat} (h0 : x≠0) (h : x < 18446744073709551616) : places x=Lib.ctz 64 x :: places (x &&& (x - 1))∧Lib.ctz 64 x < 64∧(x &&& (x - 1)) < x:=by
 obtain ⟨m,hm,hk⟩:=Lib.ctzFrom_spec 64 x (by omega) h
 have e : Lib.ctz 64 x=Lib.ctzFrom 64 x:=by simp [Lib.ctz,h0]
 rw [e]
 generalize Lib.ctzFrom 64 x=k at hm hk
 obtain ⟨b1,b2⟩:=low_bits hm
 have b3:=low_and hm
 refine ⟨?_,hk,Nat.lt_of_le_of_lt Nat.and_le_right (by omega)⟩
 have f1 : (List.range k).filter (fun i=>x.testBit i)=[]:=by
  rw [List.filter_eq_nil_iff]; intro i hi; rw [b2 i (List.mem_range.1 hi)]; simp
 have f2 : (List.range k).filter (fun i=>(x &&& (x - 1)).testBit i)=[]:=by
  rw [List.filter_eq_nil_iff]; intro i hi; rw [b3,b2 i (List.mem_range.1 hi)]; simp
 have f3 : (List.range' (k + 1) (63 - k)).filter (fun i=>(x &&& (x - 1)).testBit i)=(List.range' (k + 1) (63 - k)).filter (fun i=>x.testBit i):=by
  apply List.filter_congr
  intro i hi
  have:=(List.mem_range'_1.1 hi).1
  rw [b3,decide_eq_true (by omega),Bool.and_true]
 have f4 : (x &&& (x - 1)).testBit k=false:=by rw [b3]; simp
 unfold places
 rw [range_cut hk,List.filter_append,List.filter_append,f1,f2,List.filter_cons,if_pos b1,List.filter_cons,if_neg (by rw [f4]; simp),f3]
 rfl
theorem places_len (x : Nat) : (places x).length≤64:=by unfold places; exact Nat.le_trans (List.length_filter_le _ _) (by simp)
theorem places_lt {x i : Nat} (h : i ∈ places x) : i < 64∧x.testBit i=true:=by
 unfold places at h
 exact ⟨List.mem_range.1 (List.mem_filter.1 h).1,(List.mem_filter.1 h).2⟩
/-- The table of math/bits. -/
def TabB (w : World) : Prop:=∀ j,j < Lib.deBruijn64tab.length→w.cell? ⟨1,j,none⟩=some (.int .u8 (Lib.deBruijn64tab.getD j 0 : Nat))
theorem TabB.keep {w w' : World} (h : TabB w) (hk : ∀ p : Addr,p.block < w.heap.size→w'.cell? p=w.cell? p) : TabB w':=fun j hj=>(hk _ (World.block_lt_of_cell? _ _ (h j hj))).trans (h j hj)
theorem TabB.ext {w w' : World} (h : TabB w) (hE : Ext w w') : TabB w':=h.keep fun p hp=>Below.cell hE hp
theorem TabB.lt {w : World} (h : TabB w) : 1 < w.heap.size:=World.block_lt_of_cell? _ _ (h 0 (by decide))
theorem TabB.below {n₀ : Nat} {w w' : World} (h : TabB w) (hn : 1 < n₀) (hb : Below n₀ w w') : TabB w':=fun j hj=>(hb.cell (p:=⟨_,j,none⟩) hn).trans (h j hj)
theorem tz_key (x a : Nat) (hx : x < 18446744073709551616) (hx0 : x≠0) (hlow : x &&& (18446744073709551616 - x)=a) :
  IntKind.u64.wrap (bits BinOp.and IntKind.u64 (x : Int) (IntKind.u64.wrap (-(x : Int))) * 285870213051353865) / 288230376151711744=((a * 285870213051353865 % 18446744073709551616 / 288230376151711744 : Nat) : Int):=by
 have e1 : IntKind.u64.wrap (-(x : Int))=((18446744073709551616 - x : Nat) : Int):=by rw [IntKind.wrap_u64]; omega
 rw [e1,bits_and_u64_nat x _ hx (by omega),hlow,IntKind.wrap_u64]
 omega
set_option maxHeartbeats 1000000 in
theorem tz_core (x k idx : Nat) (w : World) (hx0 : ((x : Int) == 0)=false)
  (key : IntKind.u64.wrap (bits BinOp.and IntKind.u64 (x : Int) (IntKind.u64.wrap (-(x : Int))) * 285870213051353865) / 288230376151711744=(idx : Int))
  (hi : idx < 64) (hk : k < 64) (hcell : w.cell? ⟨1,idx,none⟩=some (.int .u8 k)) :
  Calls Tryz.prog 117 #[.int .u64 x] w fun e w'=>e=.returned (.int .i64 k)∧w'=w:=by
 go_enter Tryz.func117,Tryz.ntmps117
 go_wp2_with (simp only [key])
 go_ret
 exact ⟨rfl,rfl⟩
theorem tz_any (x : Nat) (hx : x < 18446744073709551616) (hx0 : x≠0) (w : World) (hT : TabB w) :
  Calls Tryz.prog 117 #[.int .u64 x] w fun e w'=>e=.returned (.int .i64 (Lib.ctz 64 x : Nat))∧w'=w:=by
 obtain ⟨hlow,hk⟩:=Lib.lowest_bit 64 x hx0 hx
 obtain ⟨hi,htab⟩:=Lib.deBruijn64_at _ hk
 have hcell:=hT _ hi
 rw [htab] at hcell
 exact tz_core x _ _ w (by simp; omega) (tz_key x _ hx hx0 hlow) hi hk hcell
attribute [local go_sem] Oper.semAt_some
/-- What a round keeps: all below n₀, and the block b. -/
def KpS (n₀ b : Nat) (W W' : World) : Prop:=Below n₀ W W'∧W'.heap[b]?=W.heap[b]?
theorem KpS.refl (n₀ b : Nat) (W : World) : KpS n₀ b W W:=⟨Below.refl _ _,rfl⟩
theorem KpS.trans {n₀ b : Nat} {A B C : World} (h : KpS n₀ b A B) (k : KpS n₀ b B C) : KpS n₀ b A C:=⟨h.1.trans k.1,k.2.trans h.2⟩
theorem KpS.put {n₀ b : Nat} {w : World} (hn : n₀≤w.heap.size) (hb : b < w.heap.size) (W : World) (l : Nat) (o o' : Obj) (hl : w.heap.size≤l) (h : W.heap[l]?=some o) (hc : o.isCells=false) (hw : o.isWalk=false) : KpS n₀ b W (W.putObj l o') :=
 ⟨belowK_b hn W l o o' hl h hc hw,World.putObj_heap_other (by omega)⟩
theorem KpS.alloc {n₀ b : Nat} {A B : World} (h : KpS n₀ b A B) (h1 : n₀≤B.heap.size) (h2 : b < B.heap.size) (o : Obj) : KpS n₀ b A (B.alloc o):=⟨h.1.alloc h1 o,(Below.heap_alloc B o b h2).trans h.2⟩
theorem KpS.setCell {n₀ b : Nat} {A B : World} (h : KpS n₀ b A B) {p : Addr} (h1 : n₀≤p.block) (h2 : b≠p.block) (v : Value) : KpS n₀ b A (B.setCell p v):=⟨h.1.setCell h1 v,(Below.heap_setCell B p v b h2).trans h.2⟩
/-- The iterator's own step. -/
def SetR (b : Nat) (A B : World) : Prop:=∃ v : Nat,B=A.setCell ⟨b,0,none⟩ (.int .u64 v)
def leftOf (b : Nat) (w : World) : Nat:=match w.cell? ⟨b,0,none⟩ with | some (.int _ x)=>x.toNat | _=>0
theorem leftOf_box {b : Nat} {t : TypeId} {w : World} {u : Nat} (h : Boxed w b t (.int .u64 u)) : leftOf b w=u:=by
 unfold leftOf; rw [h.cell]; simp
set_option maxRecDepth 100000 in
set_option maxHeartbeats 2000000 in
theorem set1_seq (n : Nat) (hn : 1≤n) (n₀ b v : Nat) (w : World) (hv : v < 18446744073709551616) (hb : Boxed w b 32 (.int .u64 v)) (hn₀ : n₀≤b) (hg : 1 < n₀) (hT : TabB w) :
  SeqR n Tryz.prog 116 #[.pointer (some ⟨b,0,none⟩)] (fun x : Nat=>#[Value.int .i64 (x : Int)]) (SetR b) (KpS n₀ b) (fun ys=>ys=places v) (fun pre=>pre <+: places v) 64 w:=fun l J Jx W hW hJ hJx hY h0=>by
 have hbW : Boxed W b 32 (.int .u64 v):=(hW.block _ hb.lt).trans hb
 have hTW : TabB W:=hT.ext hW
 have HY:=Lib.hid hY
 have HJ:=Lib.hid hJ
 clear hY hJ hJx hW hb hT
 refine callsIn_of_wp Tryz.func116 rfl trivial ?_ rfl
 simp only [Tryz.ntmps116,List.size_toArray,List.length_cons,List.length_nil,Nat.reduceAdd,Nat.reduceSub,Array.replicate_succ,Array.replicate_zero,List.push_toArray,List.append_toArray,List.nil_append,List.cons_append]
 gi_wp2
 gi_loopw [] (fun wr=>∃ (u : Nat) (pre : List Nat),u < 18446744073709551616∧places v=pre ++ places u∧J pre wr∧Boxed wr b 32 (.int .u64 u)∧Below n₀ W wr) (fun wr=>leftOf b wr)
 case atStart=>exact ⟨v,[],hv,by simp,h0,hbW,Below.refl _ _⟩
 case round =>
  obtain ⟨u,pre,hu,hpl,hJs,hbx,hB⟩:=hrel
  have HR:=Lib.hid (And.intro hpl (And.intro hJs hB))
  have c0:=hbx.cell
  have f0:=hbx.frozen
  have HBx:=Lib.hid hbx
  clear hpl hJs hbx hbW h0
  by_cases hu0 : u=0
  ·subst hu0
   gi_wp2
   refine ⟨trivial,?_⟩
   gi_wp2
   refine ⟨fun _ h=>(by cases h),?_⟩
   gi_wp2
   go_end0
   exact ⟨⟨_,rfl⟩,.inl ⟨_,rfl,by have h:=HR.out.1; rw [places_zero,List.append_nil] at h; rw [h]; exact HR.out.2.1⟩⟩
  ·have e0 : ((u : Int) != 0)=true:=by simpa using hu0
   obtain ⟨s1,s2,s3⟩:=places_step hu0 hu
   have hlen : pre.length < 64:=by have h:=places_len v; rw [HR.out.1,List.length_append,s1,List.length_cons] at h; omega
   obtain ⟨fn,tmps,assign,body,hy,hRd⟩:=HY.out pre (Lib.ctz 64 u) _ HR.out.2.1 hlen
   have htz:=tz_any u hu hu0 wr (hTW.below hg HR.out.2.2)
   have HTz:=Lib.hid htz
   have u1 : 1≤u:=by omega
   have ha : bits .and .u64 (u : Int) ((u : Int) - 1)=((u &&& (u - 1) : Nat) : Int):=by
    rw [show (u : Int) - 1=((u - 1 : Nat) : Int) by omega]; exact bits_and_u64_nat u (u - 1) hu (by omega)
   have HS:=Lib.hid (And.intro s1 (And.intro s2 s3))
   clear s1 s2 s3 htz hu0 hlen
   generalize u &&& (u - 1)=u2 at ha HS
   generalize Lib.ctz 64 u=k at hy hRd HTz HS
   gi_wp2_with (refine ⟨trivial,?_⟩; gi_at_call 117; refine (callsIn_wide.2 HTz.out).mono ?_; rintro e w' ⟨rfl,rfl⟩)
   obtain ⟨wr,rfl⟩ : ∃ x,x=w':=⟨_,rfl⟩
   refine hRd.mono ?_
   rintro e W3 (⟨rfl,hJ3,hk3⟩ | ⟨rfl,hJx3⟩)
   ·have hb3 : Boxed W3 b 32 (.int .u64 u):=hk3.2.trans HBx.out
    have c3:=hb3.cell
    have f3:=hb3.frozen
    have H3:=Lib.hid (And.intro hJ3 (And.intro hk3 hb3))
    clear hJ3 hk3 hb3
    gi_wp2
    go_roundw
    case rel=>exact ⟨u2,pre ++ [k],by have:=HS.out.2.2; omega,by rw [HR.out.1,HS.out.1]; simp,HJ.out _ _ _ H3.out.1 ⟨u2,rfl⟩,H3.out.2.2.set _,(HR.out.2.2.trans H3.out.2.1.1).setCell (p:=⟨b,0,none⟩) hn₀ _⟩
    case measure=>rw [leftOf_box (H3.out.2.2.set _),leftOf_box HBx.out]; exact HS.out.2.2
   ·have H3:=Lib.hid hJx3
    clear hJx3
    gi_wp2
    go_end0
    exact ⟨⟨_,rfl⟩,.inr ⟨pre ++ [k],⟨places u2,by rw [HR.out.1,HS.out.1]; simp⟩,H3.out⟩⟩
attribute [local go_sem] Oper.semAt_some
set_option maxHeartbeats 400000 in
theorem set_in (n v : Nat) (w : World) :
  CallsIn Fence.wide n Tryz.prog 78 #[.int .u64 v] w fun e w'=>e=.returned (.func (.func 116) #[] #[.pointer (some ⟨w.heap.size,0,none⟩)])∧w'=w.alloc (.cells #[.int .u64 v] 32):=by
 refine callsIn_of_wp Tryz.func78 rfl trivial ?_ rfl
 simp only [Tryz.ntmps78,List.size_toArray,List.length_cons,List.length_nil,Nat.reduceAdd,Nat.reduceSub,Array.replicate_succ,Array.replicate_zero,List.push_toArray,List.append_toArray,List.nil_append,List.cons_append]
 gi_wp2
 go_ret
 exact ⟨rfl,rfl⟩
theorem Tryz.infoIntP : (Tryz.prog.info? 3).map (fun i=>(i.zero,i.size,i.bytes))=some (some (.int .i64 0),1,8):=by kernel_rfl
def natv (l : List Nat) (j : Nat) : Value:=.int .i64 ((ix 0 l j : Nat) : Int)
theorem natv_old {l : List Nat} {x j : Nat} (h : j < l.length * 1) : natv (l ++ [x]) j=natv l j:=by unfold natv; rw [ix_app_lt 0 l x (by omega)]
theorem natv_new {l : List Nat} {x j : Nat} (h : j < 1) : natv (l ++ [x]) (l.length * 1 + j)=.int .i64 (x : Int):=by
 obtain rfl : j=0:=by omega
 unfold natv
 rw [Nat.mul_one,Nat.add_zero,ix_app_end]
set_option maxRecDepth 100000 in
set_option maxHeartbeats 2000000 in
/-- AppendSeq(nil, set(v)). -/
theorem appendSeq_in (n : Nat) (hn : 4≤n) (b n₀ v : Nat) (w : World) (hv : v < 18446744073709551616) (hb : Boxed w b 32 (.int .u64 v)) (hn₀ : n₀≤b) (hg : 1 < n₀) (hT : TabB w) :
  CallsIn Fence.wide n Tryz.prog 115 #[.slice none 0 0,.func (.func 116) #[] #[.pointer (some ⟨b,0,none⟩)]] w fun e w' =>
   ∃ A c,e=.returned (.slice A (places v).length c)∧OwnS w' w.heap.size 3 1 (.slice A (places v).length c) (places v).length (natv (places v))∧Below n₀ w w':=by
 obtain ⟨i0,hi,hz0,hz1,hz2⟩:=info_parts Tryz.infoIntP
 have HI:=Lib.hid (And.intro hi (And.intro hz0 (And.intro hz1 hz2)))
 clear hi hz0 hz1 hz2
 refine callsIn_of_wp_marks Tryz.func115 rfl trivial ?_ rfl
 simp only [Tryz.ntmps115,List.size_toArray,List.length_cons,List.length_nil,Nat.reduceAdd,Nat.reduceSub,Array.replicate_succ,Array.replicate_zero,List.push_toArray,List.append_toArray,List.nil_append,List.cons_append]
 have hbl:=hb.lt
 gi_wp2
 obtain ⟨B1,hB1⟩ : ∃ B1,w.heap.size=B1:=⟨_,rfl⟩
 have bx:=Boxed.new w 28 (.slice none 0 0)
 have hb2:=hb.alloc (.cells #[.slice none 0 0] 28)
 have hT2 : TabB (w.alloc (.cells #[.slice none 0 0] 28)):=hT.ext ((Ext.refl _).alloc _)
 have hB0 : Below n₀ w (w.alloc (.cells #[.slice none 0 0] 28)):=(Below.refl _ w).alloc (by omega) _
 have hsz : (w.alloc (.cells #[.slice none 0 0] 28)).heap.size=B1 + 1:=by simp; omega
 rw [hB1] at bx hbl ⊢
 obtain ⟨W0,hW0⟩ : ∃ W0,w.alloc (.cells #[.slice none 0 0] 28)=W0:=⟨_,rfl⟩
 rw [hW0] at bx hb2 hT2 hB0 hsz ⊢
 clear hW0
 refine rangeR (by omega) (gf:=116) (lb:=#[.pointer (some ⟨b,0,none⟩)]) rfl (enters_of Tryz.func116 (by kernel_rfl) rfl) (set1_seq (n - 1) (by omega) n₀ b v W0 hv hb2 hn₀ hg hT2)
  (fun A B ⟨u,h⟩=>h▸(KeepsOthers.setCell _ _ _).from _) (fun _=>rfl) (fun h k=>h.trans k) (fun W l o o'=>KpS.put (by omega) (by omega) W l o o')
  (fun pre W=>(∃ sv,Boxed W B1 28 sv∧W.ownsRow B1 3 1 sv pre.length (pre.map fun x=>Value.int .i64 ((x : Nat) : Int))∧True)∧(Below n₀ w W∧B1 + 1≤W.heap.size))
  (fun _ _ _=>False)
  (OwnFrom.and (Own.from (holdsRow_own B1 B1 _ _ 1 (fun (pre : List Nat)=>pre.length) (fun (pre : List Nat)=>pre.map fun x=>Value.int .i64 ((x : Nat) : Int)) (fun _ _=>True)) _) (OwnFrom.and (ownFrom_below (by omega) (by omega)) (ownFrom_size _ _)))
  (fun _ _ _ _ _ hs _ _=>hs)
  (fun pre A B hs hr=>by
   obtain ⟨u,rfl⟩:=hr
   obtain ⟨⟨sv,h1,h2,_⟩,h3,h4⟩:=hs
   exact ⟨⟨sv,h1.other (by omega) _,ownsRow_setCell_below h2 (by simp; omega) _,trivial⟩,h3.setCell (p:=⟨b,0,none⟩) hn₀ _,by simp; omega⟩)
  (fun _ _ _ _ hs _=>hs)
  ⟨⟨_,bx,World.ownsRow_nil _ _ _ _,trivial⟩,hB0,by omega⟩
  (fun x a' W=>a'={ tmps:=#[.slice none 0 0,.func (.func 116) #[] #[.pointer (some ⟨b,0,none⟩)],.pointer (some ⟨B1,0,none⟩),undef,.slice none 0 0,.int .i64 (x : Int),.func (.func 116) #[] #[.pointer (some ⟨b,0,none⟩)],.int .i64 (x : Int),undef,undef,undef,undef,undef],defers:=[] })
  (fun _ _ _ _ _ _ hs _ _=>hs)
  ?assign ?body ?done ?stop
 case assign =>
  rintro l pre x W K hi hK
  gi_wp2
  exact hK _ _ (KeepsFrom.refl _ _) (KpS.refl _ _ _) hi rfl
 case body =>
  rintro l pre x a' W hl hr ⟨⟨sv,hv0,hrow,_⟩,hB,hs1⟩ rfl hlt
  have hc:=hv0.cell
  gi_wp2_with (gi_at_builtin; refine wpListIn_append_own _ rfl _ _ 28 rfl B1 3 i0 (.int .i64 0) 1 8 Tryz.underlying28 HI.out.1 HI.out.2.1 HI.out.2.2.1 HI.out.2.2.2 rfl (by decide) _ _ _ rfl (hrow.alloc _) ⟨W.heap.size,0,none⟩ 1 1 [.int .i64 (x : Int)] rfl rfl (cell_one_new _ _ _) (by simp [Value.oneCell']) ?q1 ?q2 ?q3 ?_; (case q1=>unfold maxLen; omega); (case q2=>omega); (case q3=>simp; omega); intro v' w1 hown' hgrow _; obtain ⟨g',cap',rfl⟩:=ownsRow_succ hown'; obtain ⟨hv1,hv2,hr2,hk2,hb3⟩:=hv0.appended (by decide) hrow (by omega) (Nat.le_refl _) hown' hgrow; have hc1:=hv1.cell; have hf1:=hv1.frozen)
  have hsw:=hb3.size
  exact ⟨hk2.from _,⟨hb3.mono (by omega),hb3.block b (by omega)⟩,⟨_,hv2,by simpa using hr2,trivial⟩,hB.trans (hb3.mono (by omega)),by omega⟩
 case done =>
  rintro D ys W hD rfl ⟨⟨sv,hv0,hrow,_⟩,hB,hs1⟩ hK
  have hO : OwnS W B1 3 1 sv (places v).length (natv (places v)):=by
   unfold OwnS
   have e : (List.range ((places v).length * 1)).map (natv (places v))=(places v).map fun x=>Value.int .i64 ((x : Nat) : Int):=by
    apply List.ext_getElem
    ·simp
    ·intro i h1 h2
     simp at h1
     simp [natv,ix_lt h1]
   rw [e]
   exact hrow
  obtain ⟨A,c,rfl,hcl,_⟩:=hO.form
  have hc:=hv0.cell
  have HO:=Lib.hid hO
  clear hO hrow
  gi_wp2
  refine ⟨by simp,.inl ⟨_,_,rfl,run_takeDeferred hK,?_⟩⟩
  refine ⟨_,results_tmp rfl _ _ _,A,c,rfl,?_,?_⟩
  ·rw [hB1]; exact ownsRow_putObj HO.out _ hK rfl
  ·exact hB.trans (belowK_b (w:=w) (by omega) W D _ _ (by omega) hK rfl rfl)
 case stop =>
  rintro D c pre W _ _ h _
  exact h.elim
set_option maxHeartbeats 1000000 in
theorem collect_in (n : Nat) (hn : 5≤n) (b n₀ v : Nat) (w : World) (hv : v < 18446744073709551616) (hb : Boxed w b 32 (.int .u64 v)) (hn₀ : n₀≤b) (hg : 1 < n₀) (hT : TabB w) :
  CallsIn Fence.wide n Tryz.prog 77 #[.func (.func 116) #[] #[.pointer (some ⟨b,0,none⟩)]] w fun e w' =>
   ∃ A c,e=.returned (.slice A (places v).length c)∧OwnS w' w.heap.size 3 1 (.slice A (places v).length c) (places v).length (natv (places v))∧Below n₀ w w':=by
 refine callsIn_of_wp Tryz.func77 rfl trivial ?_ rfl
 simp only [Tryz.ntmps77,List.size_toArray,List.length_cons,List.length_nil,Nat.reduceAdd,Nat.reduceSub,Array.replicate_succ,Array.replicate_zero,List.push_toArray,List.append_toArray,List.nil_append,List.cons_append]
 gi_wp2
 refine ⟨trivial,fun _=>by omega,?_⟩
 refine (appendSeq_in (n - 1) (by omega) b n₀ v _ hv hb hn₀ hg hT).mono ?_
 rintro e w' ⟨A,c,rfl,hO,hB⟩
 gi_wp2
 go_ret
 exact ⟨A,c,rfl,hO,hB⟩
/-- Where the bits lie, in a slice of the call's own. -/
def PlacesOut (v : Nat) (w : World) (e : Ending) (w' : World) : Prop:=(∃ A c,e=.returned (.slice A (places v).length c)∧OwnS w' w.heap.size 3 1 (.slice A (places v).length c) (places v).length (natv (places v)))∧Ext w w'
set_option maxHeartbeats 1000000 in
theorem places_any (v : Nat) (w : World) (hv : v < 18446744073709551616) (hT : TabB w) :
  Calls Tryz.prog 45 #[.int .u64 v] w (PlacesOut v w):=by
 have hlt:=hT.lt
 have hb:=Boxed.new w 32 (.int .u64 v)
 have hT2 : TabB (w.alloc (.cells #[.int .u64 v] 32)):=hT.ext ((Ext.refl _).alloc _)
 have HH:=Lib.hid (And.intro hb hT2)
 clear hb hT2
 refine (callsIn_wide (n:=9)).1 ?_
 refine callsIn_of_wp Tryz.func45 rfl trivial ?_ rfl
 simp only [Tryz.ntmps45,List.size_toArray,List.length_cons,List.length_nil,Nat.reduceAdd,Nat.reduceSub,Array.replicate_succ,Array.replicate_zero,List.push_toArray,List.append_toArray,List.nil_append,List.cons_append]
 gi_wp2_with (refine ⟨trivial,?_⟩; gi_at_call 78; refine (set_in _ v _).mono ?_; rintro e w' ⟨rfl,rfl⟩)
 refine ⟨trivial,?_⟩
 refine (collect_in _ (by omega) w.heap.size w.heap.size v _ hv HH.out.1 (Nat.le_refl _) hlt HH.out.2).mono ?_
 rintro e w' ⟨A,c,rfl,hO,hB⟩
 gi_wp2
 go_ret
 exact ⟨⟨A,c,rfl,hO.mono (by simp)⟩,((Below.refl _ w).alloc (Nat.le_refl _) _).trans hB⟩
end Go.Proofs.YtoolenhnhlfhmaaGreatDoor

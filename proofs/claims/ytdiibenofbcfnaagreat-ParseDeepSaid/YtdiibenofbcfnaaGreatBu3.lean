/- Several texts put together: Ins. -/
import Derived.Test.YtdiibenofbcfnaaGreatBu2
set_option linter.unusedSimpArgs false
set_option linter.unusedVariables false
namespace Go.Proofs.YtdiibenofbcfnaaGreat
open Go.RowKit
class T1 (ty : TypeId) : Prop where
  a : ∀ w, (isAgg ty).run Tryz.prog w = .ok false w
  s : ∀ w, (sizeOf ty).run Tryz.prog w = .ok 1 w
class TN (ty : TypeId) (n : outParam Nat) : Prop where
  a : ∀ w, (isAgg ty).run Tryz.prog w = .ok true w
  s : ∀ w, (sizeOf ty).run Tryz.prog w = .ok n w
class TZ (ty : TypeId) (cs : outParam (List Value)) : Prop where
  z : ∀ w, (zeroValue ty).run Tryz.prog w = .ok (.agg cs.toArray) w
class TF (ty : TypeId) (fs : outParam (Array Field)) : Prop where
  u : Tryz.prog.underlying ty = some (.struct fs)
@[reducible] def fsOf {ty : TypeId} {fs : Array Field} (_ : Tryz.prog.underlying ty = some (.struct fs)) : Array Field := fs
instance : T1 3 := ⟨Tryz.isAgg3, Tryz.sizeOf3⟩
instance : T1 9 := ⟨Tryz.isAgg9, Tryz.sizeOf9⟩
instance : T1 4 := ⟨Tryz.isAgg4, Tryz.sizeOf4⟩
instance : T1 5 := ⟨Tryz.isAgg5, Tryz.sizeOf5⟩
instance : T1 34 := ⟨Tryz.isAgg34, Tryz.sizeOf34⟩
instance : T1 23 := ⟨Tryz.isAgg23, Tryz.sizeOf23⟩
instance : T1 37 := ⟨Tryz.isAgg37, Tryz.sizeOf37⟩
instance : T1 74 := ⟨Tryz.isAgg74, Tryz.sizeOf74⟩
instance : T1 24 := ⟨Tryz.isAgg24, Tryz.sizeOf24⟩
instance : T1 25 := ⟨Tryz.isAgg25, Tryz.sizeOf25⟩
instance : T1 42 := ⟨Tryz.isAgg42, Tryz.sizeOf42⟩
instance : T1 45 := ⟨Tryz.isAgg45, Tryz.sizeOf45⟩
instance : T1 29 := ⟨Tryz.isAgg29, Tryz.sizeOf29⟩
instance : T1 53 := ⟨Tryz.isAgg53, Tryz.sizeOf53⟩
instance : TN 39 8 := ⟨Tryz.isAgg39, Tryz.sizeOf39⟩
instance : TZ 39 [.int .i64 0, .int .i64 0, .string { data := #[] }, .bool false, .int .u64 0, .int .u64 0, .int .i64 0, .slice none 0 0] := ⟨Tryz.zeroValue39⟩
instance : TF 39 (fsOf Tryz.underlying39) := ⟨Tryz.underlying39⟩
instance : TN 59 6 := ⟨Tryz.isAgg59, Tryz.sizeOf59⟩
instance : TZ 59 [.int .i64 0, .int .i64 0, .string { data := #[] }, .bool false, .int .u64 0, .int .u64 0] := ⟨Tryz.zeroValue59⟩
instance : TF 59 (fsOf Tryz.underlying59) := ⟨Tryz.underlying59⟩
instance : TN 27 2 := ⟨Tryz.isAgg27, Tryz.sizeOf27⟩
instance : TZ 27 [.slice none 0 0, .slice none 0 0] := ⟨Tryz.zeroValue27⟩
instance : TF 27 (fsOf Tryz.underlying27) := ⟨Tryz.underlying27⟩
instance : TN 76 11 := ⟨Tryz.isAgg76, Tryz.sizeOf76⟩
instance : TZ 76 [.string { data := #[] }, .slice none 0 0, .int .i64 0, .int .i64 0, .string { data := #[] }, .bool false, .int .u64 0, .int .u64 0, .int .i64 0, .slice none 0 0, .int .i64 0] := ⟨Tryz.zeroValue76⟩
instance : TF 76 (fsOf Tryz.underlying76) := ⟨Tryz.underlying76⟩
instance : TN 41 12 := ⟨Tryz.isAgg41, Tryz.sizeOf41⟩
instance : TZ 41 [.int .i64 0, .int .i64 0, .slice none 0 0, .int .i64 0, .int .i64 0, .string { data := #[] }, .bool false, .int .u64 0, .int .u64 0, .int .i64 0, .slice none 0 0, .bool false] := ⟨Tryz.zeroValue41⟩
instance : TF 41 (fsOf Tryz.underlying41) := ⟨Tryz.underlying41⟩
instance : TN 70 2 := ⟨Tryz.isAgg70, Tryz.sizeOf70⟩
instance : TZ 70 [.int .i64 0, .nilIface] := ⟨Tryz.zeroValue70⟩
instance : TF 70 (fsOf Tryz.underlying70) := ⟨Tryz.underlying70⟩
instance : TN 36 3 := ⟨Tryz.isAgg36, Tryz.sizeOf36⟩
instance : TZ 36 [.bool false, .int .u64 0, .int .u64 0] := ⟨Tryz.zeroValue36⟩
instance : TF 36 (fsOf Tryz.underlying36) := ⟨Tryz.underlying36⟩
instance : TN 50 3 := ⟨Tryz.isAgg50, Tryz.sizeOf50⟩
instance : TZ 50 [.slice none 0 0, .int .i64 0, .int .i64 0] := ⟨Tryz.zeroValue50⟩
instance : TF 50 (fsOf Tryz.underlying50) := ⟨Tryz.underlying50⟩
instance : TN 57 3 := ⟨Tryz.isAgg57, Tryz.sizeOf57⟩
instance : TZ 57 [.slice none 0 0, .int .i64 0, .slice none 0 0] := ⟨Tryz.zeroValue57⟩
instance : TF 57 (fsOf Tryz.underlying57) := ⟨Tryz.underlying57⟩
instance : TN 47 1 := ⟨Tryz.isAgg47, Tryz.sizeOf47⟩
instance : TZ 47 [.pointer none] := ⟨Tryz.zeroValue47⟩
instance : TF 47 (fsOf Tryz.underlying47) := ⟨Tryz.underlying47⟩
class Bi (bs : List Bx) (b : Nat) (t : outParam TypeId) (cs : outParam (List Value)) : Prop where
  m : (⟨b, t, cs⟩ : Bx) ∈ bs
instance (priority := low) {bs : List Bx} {b : Nat} {t : TypeId} {cs : List Value} {x : Bx} [h : Bi bs b t cs] : Bi (x :: bs) b t cs := ⟨List.mem_cons_of_mem _ h.m⟩
instance {bs : List Bx} {b : Nat} {t : TypeId} {cs : List Value} : Bi (⟨b, t, cs⟩ :: bs) b t cs := ⟨List.mem_cons_self⟩
class Bu (bs : List Bx) (b : Nat) (t : outParam TypeId) (cs : outParam (List Value)) (f : outParam (List Value → List Bx)) : Prop where
  m : (⟨b, t, cs⟩ : Bx) ∈ bs
  c : ∀ cs', Chg bs ⟨b, t, cs⟩ ⟨b, t, cs'⟩ (f cs')
instance (priority := low) {bs : List Bx} {b : Nat} {t : TypeId} {cs : List Value} {x : Bx} {f : List Value → List Bx} [h : Bu bs b t cs f] : Bu (x :: bs) b t cs (fun c => x :: f c) := ⟨List.mem_cons_of_mem _ h.m, fun c => .tail _ (h.c c)⟩
instance {bs : List Bx} {b : Nat} {t : TypeId} {cs : List Value} : Bu (⟨b, t, cs⟩ :: bs) b t cs (fun c => ⟨b, t, c⟩ :: bs) := ⟨List.mem_cons_self, fun _ => .head _ _ _⟩
class Oc (v : Value) : Prop where
  o : v.oneCell' = true
instance {t : IntKind} {n : Int} : Oc (.int t n) := ⟨rfl⟩
instance {b : Bool} : Oc (.bool b) := ⟨rfl⟩
instance {b : ByteArray} : Oc (.string b) := ⟨rfl⟩
instance {a : Option Addr} {n c : Nat} : Oc (.slice a n c) := ⟨rfl⟩
instance {a : Option Addr} : Oc (.pointer a) := ⟨rfl⟩
instance {t : TypeId} {v : Value} : Oc (.iface t v) := ⟨rfl⟩
instance : Oc .nilIface := ⟨rfl⟩
class Ocs (vs : List Value) (n : outParam Nat) : Prop where
  o : ∀ v ∈ vs, v.oneCell' = true
  n : vs.length = n
instance : Ocs [] 0 := ⟨fun _ h => (by cases h), rfl⟩
instance {v : Value} {vs : List Value} {n : Nat} [h : Oc v] [k : Ocs vs n] : Ocs (v :: vs) (n + 1) := ⟨fun u hu => (by rcases List.mem_cons.1 hu with rfl | hu; exact h.o; exact k.o u hu), (by rw [List.length_cons, k.n])⟩
class Ln (cs : List Value) (n : outParam Nat) : Prop where
  n : cs.length = n
instance : Ln [] 0 := ⟨rfl⟩
instance {v : Value} {vs : List Value} {n : Nat} [k : Ln vs n] : Ln (v :: vs) (n + 1) := ⟨(by rw [List.length_cons, k.n])⟩
class Gt (cs : List Value) (k : Nat) (v : outParam Value) : Prop where
  g : cs[k]? = some v
instance {v : Value} {vs : List Value} : Gt (v :: vs) 0 v := ⟨rfl⟩
instance {v u : Value} {vs : List Value} {k : Nat} [h : Gt vs k v] : Gt (u :: vs) (k + 1) v := ⟨h.g⟩
class Pt (cs : List Value) (k : Nat) (v : Value) (cs' : outParam (List Value)) : Prop where
  s : cs.set k v = cs'
  l : k < cs.length
instance {u v : Value} {vs : List Value} : Pt (u :: vs) 0 v (v :: vs) := ⟨rfl, Nat.succ_pos _⟩
instance {u v : Value} {vs vs' : List Value} {k : Nat} [h : Pt vs k v vs'] : Pt (u :: vs) (k + 1) v (u :: vs') := ⟨(by rw [List.set_cons_succ, h.s]), Nat.succ_lt_succ h.l⟩
class Tk (cs : List Value) (n : Nat) (sub : outParam (List Value)) : Prop where
  t : cs.take n = sub
  n : sub.length = n
instance {cs : List Value} : Tk cs 0 [] := ⟨List.take_zero, rfl⟩
instance {v : Value} {vs s : List Value} {n : Nat} [h : Tk vs n s] : Tk (v :: vs) (n + 1) (v :: s) := ⟨(by rw [List.take_succ_cons, h.t]), (by rw [List.length_cons, h.n])⟩
class Sb (cs : List Value) (k n : Nat) (sub : outParam (List Value)) : Prop where
  t : (cs.drop k).take n = sub
  n : sub.length = n
instance {cs s : List Value} {n : Nat} [h : Tk cs n s] : Sb cs 0 n s := ⟨h.t, h.n⟩
instance {v : Value} {vs s : List Value} {k n : Nat} [h : Sb vs k n s] : Sb (v :: vs) (k + 1) n s := ⟨h.t, h.n⟩
class Ci (F : List Cold) (c : Cold) : Prop where
  m : c ∈ F
instance {F : List Cold} {c : Cold} : Ci (c :: F) c := ⟨List.mem_cons_self⟩
instance (priority := low) {F : List Cold} {c d : Cold} [h : Ci F c] : Ci (d :: F) c := ⟨List.mem_cons_of_mem _ h.m⟩
theorem pS0 {α : Type} (l : List α) (i : Nat) (a : α) : l.toArray.setIfInBounds i a = (l.set i a).toArray := List.setIfInBounds_toArray l i a
theorem pS1 {α : Type} (x : α) (xs : List α) (y : α) : (x :: xs).set 0 y = y :: xs := rfl
theorem pS2 {α : Type} (x : α) (xs : List α) (n : Nat) (y : α) : (x :: xs).set (n + 1) y = x :: xs.set n y := rfl
section
variable {o : Oper} {a : Act} {w0 w : World} {X : List Nat} {S : World → Prop} {bs bs' : List Bx} {rs : List Rw} {F : List Cold} {K : Act → World → Prop} {Q : Exit → Act → World → Prop}
theorem oL1 (HO : Hid (Own w0 X S bs rs F w)) {ty : TypeId} {x : Operand} (ho : o.op = .load ty x) {b k : Nat} (hx : a.eval x = .pointer (some ⟨b, k, none⟩)) {t : TypeId} {cs : List Value} {v : Value} [T : T1 ty] [m : Bi bs b t cs] [g : Gt cs k v] (h : K (a.put o.dst v) w) : WOp Tryz.prog o a w K Q := wo_load1 HO ho hx m.m T.a g.g h
theorem oL2 (HO : Hid (Own w0 X S bs rs F w)) {ty : TypeId} {x : Operand} (ho : o.op = .load ty x) {b : Nat} (hx : a.eval x = .pointer (some ⟨b, 0, none⟩)) {t : TypeId} {cs : List Value} {n : Nat} [T : TN ty n] [m : Bi bs b t cs] [l : Ln cs n] (h : K (a.put o.dst (.agg cs.toArray)) w) : WOp Tryz.prog o a w K Q := wo_load HO ho hx m.m T.a T.s l.n h
theorem oL3 (HO : Hid (Own w0 X S bs rs F w)) {ty : TypeId} {x : Operand} (ho : o.op = .load ty x) {b k : Nat} (hx : a.eval x = .pointer (some ⟨b, k, none⟩)) {t : TypeId} {cs : List Value} {n : Nat} [T : TN ty n] [m : Bi bs b t cs] {sub : List Value} [l : Sb cs k n sub] (h : K (a.put o.dst (.agg sub.toArray)) w) : WOp Tryz.prog o a w K Q := wo_load_at HO ho hx m.m T.a T.s l.t l.n h
theorem oT1 (HO : Hid (Own w0 X S bs rs F w)) {ty : TypeId} {x : Operand} {v : Value} (ho : o.op = .store ty x (.const v)) (hdst : o.dst = none) {b k : Nat} (hx : a.eval x = .pointer (some ⟨b, k, none⟩)) {t : TypeId} {cs cs' : List Value} {f : List Value → List Bx} [T : T1 ty] [m : Bu bs b t cs f] [p : Pt cs k v cs'] [O : Oc v] (h : ∀ W, Hid (Own w0 X S (f cs') rs F W) → K a W) : WOp Tryz.prog o a w K Q := wo_store1c HO ho hdst hx m.m p.s (m.c cs') T.s p.l O.o h
theorem oT2 (HO : Hid (Own w0 X S bs rs F w)) {ty : TypeId} {x : Operand} {i : Tmp} {v : Value} (ho : o.op = .store ty x (.tmp i)) (hdst : o.dst = none) {b k : Nat} (hx : a.eval x = .pointer (some ⟨b, k, none⟩)) (hy : a.tmps.toList[i]? = some v) {t : TypeId} {cs cs' : List Value} {f : List Value → List Bx} [T : T1 ty] [m : Bu bs b t cs f] [p : Pt cs k v cs'] [O : Oc v] (h : ∀ W, Hid (Own w0 X S (f cs') rs F W) → K a W) : WOp Tryz.prog o a w K Q := wo_store1t HO ho hdst hx (by rw [← Array.getElem?_toList]; exact hy) m.m p.s (m.c cs') T.s p.l O.o h
theorem oT3 (HO : Hid (Own w0 X S bs rs F w)) {ty : TypeId} {x y : Operand} (ho : o.op = .store ty x y) (hdst : o.dst = none) {b : Nat} (hx : a.eval x = .pointer (some ⟨b, 0, none⟩)) {vs : List Value} (hy : a.eval y = .agg vs.toArray) {t : TypeId} {cs : List Value} {f : List Value → List Bx} {n : Nat} [T : TN ty n] [m : Bu bs b t cs f] [O : Ocs vs n] [L : Ln cs n] (h : ∀ W, Hid (Own w0 X S (f vs) rs F W) → K a W) : WOp Tryz.prog o a w K Q := wo_store HO ho hdst hx hy (m.c vs) T.s O.n (L.n.trans O.n.symm) O.o h
set_option maxRecDepth 100000 in
theorem oAl (HO : Hid (Own w0 X S bs rs F w)) {d : Option Tmp} {t T : TypeId} {ps : String} {af : Array Edge} {gd : Option (Nat × Bool)} {cs : List Value} [Z : TZ t cs] (h : ∀ W, Hid (Own w0 X S (⟨w.heap.size, t, cs⟩ :: bs) rs F W) → K (a.put d (.pointer (some ⟨w.heap.size, 0, none⟩))) W) : Oper.wp Tryz.prog ⟨d, .alloc t, T, ps, af, gd⟩ a w K Q := by
  with_reducible refine to_alloc ?_
  exact wo_alloc HO rfl Z.z h
set_option maxRecDepth 100000 in
theorem oF1 {ty : TypeId} {x : Operand} {f : Nat} {d : Option Tmp} {T : TypeId} {ps : String} {af : Array Edge} {gd : Option (Nat × Bool)} {cs : List Value} (hx : a.eval x = .agg cs.toArray) {fs : Array Field} [U : TF ty fs] (h : ∃ nm ft off em tg u1 u2 v, fs[f]? = some ⟨nm, ft, off, em, tg, u1, u2⟩ ∧ cs[off]? = some v ∧ T1 ft ∧ K (a.put d v) w) : WOp Tryz.prog ⟨d, .field ty x f, T, ps, af, gd⟩ a w K Q := by
  obtain ⟨_, _, _, _, _, _, _, _, h1, h2, h3, h4⟩ := h
  exact wo_field1 rfl hx U.u h1 h2 h3.a h4
theorem oBc {fn : Func} {R : Ending → World → Prop} (HO : Hid (Own w0 X S bs rs F w)) {t : Tmp} {ty : TypeId} (hf : fn.results = #[.cell t ty]) {b : Nat} (hx : a.tmps.getD t undef = .pointer (some ⟨b, 0, none⟩)) {u : TypeId} {cs : List Value} {n : Nat} (hdef : a.defers = []) [T : TN ty n] [m : Bi bs b u cs] [l : Ln cs n] (h : R (.returned (.agg cs.toArray)) w) : bodyPost Tryz.prog fn R .ret a w := bp_cell HO hf hx m.m T.a T.s l.n hdef h
end
structure wpE (w0 : World) (X : List Nat) (bs : List Bx) (late _plan _then : List Nat) (ops : Array Oper) (Q : Exit → Act → World → Prop) (f : Nat) (listed : Array Bool) (a : Act) (w : World) : Prop where
  h : wpAnyE Tryz.prog .any ops Q (OwnB w0 X bs) late f listed a w
structure wpL (_plan : List Nat) (ops : Array Oper) (Q : Exit → Act → World → Prop) (f : Nat) (listed : Array Bool) (a : Act) (w : World) : Prop where
  h : wpAnyH Tryz.prog .any ops Q Anyw f listed a w
def ckP (ops : Array Oper) (late : List Nat) (listed : Array Bool) (i : Nat) : Bool := Region.noSelect ops && Region.free .any ops listed i && (Region.ready .any ops listed).contains i && !late.contains i
def ckL (ops : Array Oper) (late : List Nat) (listed : Array Bool) (i : Nat) : Bool := ckP ops late listed i && waits .any ops late listed i
def ckO (ops : Array Oper) (late : List Nat) (listed : Array Bool) (i : Nat) : Bool := Region.ready .any ops listed == [i] && !late.contains i
def ckT (ops : Array Oper) (late : List Nat) (listed : Array Bool) (i : Nat) : Bool := Region.ready .any ops listed == [i] && late.contains i
def ckM (ops : Array Oper) (listed : Array Bool) (i : Nat) : Bool := Region.ready .any ops listed == [i]
def ckH (ops : Array Oper) (listed : Array Bool) (i : Nat) : Bool := Region.noSelect ops && Region.free .any ops listed i && (Region.ready .any ops listed).contains i
def ckD (ops : Array Oper) (listed : Array Bool) : Bool := Region.ready .any ops listed == []
theorem ckP.all {ops : Array Oper} {late : List Nat} {listed : Array Bool} {i : Nat} (h : ckP ops late listed i = true) : Region.noSelect ops = true ∧ Region.free .any ops listed i = true ∧ (Region.ready .any ops listed).contains i = true ∧ late.contains i = false := by
  unfold ckP at h
  simp only [Bool.and_eq_true, Bool.not_eq_true'] at h
  exact ⟨h.1.1.1, h.1.1.2, h.1.2, h.2⟩
theorem mixed : Tryz.prog.follows .mixedOrders = true := by kernel_rfl
section
variable {w0 w : World} {X : List Nat} {S : World → Prop} {bs : List Bx} {rs : List Rw} {F : List Cold} {late plan pl2 : List Nat} {ops : Array Oper} {Q : Exit → Act → World → Prop} {f : Nat} {listed : Array Bool} {a : Act} {i : Nat} {oi : Oper}
theorem eOp {K : Act → World → Prop} (h : Oper.wp Tryz.prog oi a w K Q) : Oper.wp Tryz.prog oi a w K Q := h
theorem eGo (h : wpE w0 X bs late plan pl2 ops Q f listed a w) : wpE w0 X bs late plan pl2 ops Q f listed a w := h
theorem eHo (h : wpL plan ops Q f listed a w) : wpL plan ops Q f listed a w := h
theorem eBe {id : Nat} (HO : Hid (Own w0 X S bs rs F w)) (late plan pl2 : List Nat) (h : ∀ W, Hid (Own w0 X S bs rs F W) → wpE w0 X bs late plan pl2 ops Q ops.size (Array.replicate ops.size false) a W) : (Code.region id ops true).wp Tryz.prog Q a w := e_begin HO late mixed fun W hO => (h W hO).h
theorem ePu (HO : Hid (Own w0 X S bs rs F w)) (hi : (ops.toList.drop i).head? = some oi) {v : Value} (hk : ckP ops late listed i = true) (hQ : ∀ c a w, Q (.panic c) (a.put oi.dst v) w → Q (.panic c) a w) (hwa : Region.wanted oi (yielded ops a.tmps) = true) (hy : ∀ w, (execOp a.eval oi).run Tryz.prog w = .ok (.value v) w)
    (h : wpE w0 X bs late plan pl2 ops Q f (listed.setIfInBounds i true) (a.put oi.dst v) w) : wpE w0 X bs late (i :: plan) pl2 ops Q (f + 1) listed a w :=
  ⟨e_pure hi (ckP.all hk).1 (ckP.all hk).2.1 (ckP.all hk).2.2.1 (ckP.all hk).2.2.2 hQ hwa (OwnB.of HO) hy h.h⟩
theorem eL1 (HO : Hid (Own w0 X S bs rs F w)) (hi : (ops.toList.drop i).head? = some oi) {ty : TypeId} {x : Operand} (ho : oi.op = .load ty x) {b k : Nat} (hx : a.eval x = .pointer (some ⟨b, k, none⟩)) {t : TypeId} {cs : List Value} {v : Value} [T : T1 ty] [m : Bi bs b t cs] [g : Gt cs k v] (hk : ckL ops late listed i = true) (hQ : ∀ c a w, Q (.panic c) (a.put oi.dst v) w → Q (.panic c) a w) (hwa : Region.wanted oi (yielded ops a.tmps) = true)
    (h : wpE w0 X bs late plan pl2 ops Q f (listed.setIfInBounds i true) (a.put oi.dst v) w) : wpE w0 X bs late (i :: plan) pl2 ops Q (f + 1) listed a w := by
  have hk2 := Bool.and_eq_true_iff.1 hk
  refine ⟨?_⟩
  exact e_load1 HO hi (ckP.all hk2.1).1 (ckP.all hk2.1).2.1 (ckP.all hk2.1).2.2.1 (ckP.all hk2.1).2.2.2 hk2.2 ho hx m.m T.a g.g hQ hwa h.h
theorem eL2 (HO : Hid (Own w0 X S bs rs F w)) (hi : (ops.toList.drop i).head? = some oi) {ty : TypeId} {x : Operand} (ho : oi.op = .load ty x) {b : Nat} (hx : a.eval x = .pointer (some ⟨b, 0, none⟩)) {t : TypeId} {cs : List Value} {n : Nat} [T : TN ty n] [m : Bi bs b t cs] [l : Ln cs n] (hk : ckL ops late listed i = true) (hQ : ∀ c a w, Q (.panic c) (a.put oi.dst (.agg cs.toArray)) w → Q (.panic c) a w) (hwa : Region.wanted oi (yielded ops a.tmps) = true)
    (h : wpE w0 X bs late plan pl2 ops Q f (listed.setIfInBounds i true) (a.put oi.dst (.agg cs.toArray)) w) : wpE w0 X bs late (i :: plan) pl2 ops Q (f + 1) listed a w := by
  have hk2 := Bool.and_eq_true_iff.1 hk
  refine ⟨?_⟩
  exact e_load HO hi (ckP.all hk2.1).1 (ckP.all hk2.1).2.1 (ckP.all hk2.1).2.2.1 (ckP.all hk2.1).2.2.2 hk2.2 ho hx m.m T.a T.s l.n hQ hwa h.h
theorem eA1 (hi : (ops.toList.drop i).head? = some oi) (hk : ckO ops late listed i = true) (hwa : Region.wanted oi (yielded ops a.tmps) = true)
    (h : ∀ K : Act → World → Prop, Hid (∀ a' w', OwnB w0 X bs w' → wpE w0 X bs late plan pl2 ops Q f (listed.setIfInBounds i true) a' w' → K a' w') → Oper.wp Tryz.prog oi a w K Q) : wpE w0 X bs late (i :: plan) pl2 ops Q (f + 1) listed a w := by
  have hk2 := Bool.and_eq_true_iff.1 hk
  exact ⟨e_one (beq_iff_eq.1 hk2.1) hi (by simpa using hk2.2) hwa fun K hK => h K (Lib.hid fun a' w' s k => hK.out a' w' s k.h)⟩
theorem eCa {c : Call} (hi : (ops.toList.drop i).head? = some oi) (_ : oi.op = .call c) (hk : ckO ops late listed i = true) (hwa : Region.wanted oi (yielded ops a.tmps) = true)
    (h : ∀ K : Act → World → Prop, Hid (∀ a' w', OwnB w0 X bs w' → wpE w0 X bs late plan pl2 ops Q f (listed.setIfInBounds i true) a' w' → K a' w') → Oper.wp Tryz.prog oi a w K Q) : wpE w0 X bs late (i :: plan) pl2 ops Q (f + 1) listed a w := eA1 hi hk hwa h
theorem eSl {c : TypeId} {m : Nat} {l : _} (hi : (ops.toList.drop i).head? = some oi) (_ : oi.op = .buildSlice c m l) (hk : ckO ops late listed i = true) (hwa : Region.wanted oi (yielded ops a.tmps) = true)
    (h : ∀ K : Act → World → Prop, Hid (∀ a' w', OwnB w0 X bs w' → wpE w0 X bs late plan pl2 ops Q f (listed.setIfInBounds i true) a' w' → K a' w') → Oper.wp Tryz.prog oi a w K Q) : wpE w0 X bs late (i :: plan) pl2 ops Q (f + 1) listed a w := eA1 hi hk hwa h
theorem eA2 (hi : (ops.toList.drop i).head? = some oi) (hk : ckT ops late listed i = true) (hwa : Region.wanted oi (yielded ops a.tmps) = true)
    (h : ∀ K : Act → World → Prop, Hid (∀ a' w', wpL pl2 ops Q f (listed.setIfInBounds i true) a' w' → K a' w') → Oper.wp Tryz.prog oi a w K Q) : wpE w0 X bs late [] (i :: pl2) ops Q (f + 1) listed a w := by
  have hk2 := Bool.and_eq_true_iff.1 hk
  exact ⟨e_late (beq_iff_eq.1 hk2.1) hi hk2.2 hwa fun K hK => h K (Lib.hid fun a' w' k => hK.out a' w' k.h)⟩
theorem eA3 (hi : (ops.toList.drop i).head? = some oi) (hk : ckM ops listed i = true) (hwa : Region.wanted oi (yielded ops a.tmps) = true)
    (h : ∀ K : Act → World → Prop, Hid (∀ a' w', wpL plan ops Q f (listed.setIfInBounds i true) a' w' → K a' w') → Oper.wp Tryz.prog oi a w K Q) : wpL (i :: plan) ops Q (f + 1) listed a w := ⟨e_more (beq_iff_eq.1 hk) hi hwa fun K hK => h K (Lib.hid fun a' w' k => hK.out a' w' k.h)⟩
theorem eA4 (hi : (ops.toList.drop i).head? = some oi) {v : Value} (hk : ckH ops listed i = true) (hQ : ∀ c a w, Q (.panic c) (a.put oi.dst v) w → Q (.panic c) a w) (hwa : Region.wanted oi (yielded ops a.tmps) = true) (hy : ∀ w, (execOp a.eval oi).run Tryz.prog w = .ok (.value v) w)
    (h : wpL plan ops Q f (listed.setIfInBounds i true) (a.put oi.dst v) w) : wpL (i :: plan) ops Q (f + 1) listed a w := by
  unfold ckH at hk
  simp only [Bool.and_eq_true] at hk
  exact ⟨e_pureH hi hk.1.1 hk.1.2 hk.2 hQ hwa hy h.h⟩
theorem eDo (hk : ckD ops listed = true) (h : Q .normal a w) : wpL [] ops Q f listed a w := ⟨e_done (beq_iff_eq.1 hk) h⟩
theorem eEe (hk : ckD ops listed = true) (h : Q .normal a w) : wpE w0 X bs late [] [] ops Q f listed a w := by
  have hr : Region.ready .any ops listed = [] := beq_iff_eq.1 hk
  refine ⟨?_⟩
  cases f with
  | zero => exact ⟨hr, h⟩
  | succ f => exact ⟨fun _ => h, fun i hi => by rw [hr] at hi; cases hi⟩
theorem eFi {cs : List Value} {ty : TypeId} {x : Operand} {k : Nat} {a : Act} {o : Oper} (ho : o.op = .field ty x k) (hx : a.eval x = .agg cs.toArray) {fs : Array Field} [U : TF ty fs] {v : Value} (h : ∃ nm ft off em tg u1 u2, fs[k]? = some ⟨nm, ft, off, em, tg, u1, u2⟩ ∧ cs[off]? = some v ∧ T1 ft) : ∀ w, (execOp a.eval o).run Tryz.prog w = .ok (.value v) w := by
  obtain ⟨_, _, off, _, _, _, _, h1, h2, h3⟩ := h
  intro w
  have hv2 : cs.toArray[off]? = some v := by simpa using h2
  unfold execOp
  simp only [ho, hx, Instr.field, Sem.run_bind, run_underlying U.u w, Result.andThen_ok, h1, asAgg, Sem.run_pure, part, h3.a w, Bool.false_eq_true, if_false, hv2]
end
class Xt (K : Act → World → Prop) (Q : Exit → Act → World → Prop) (e : Exit) (a : Act) (w : World) (q : outParam Prop) : Prop where
  i : q → Exit.then K Q e a w
class Xb (i : Nat) (Q : Exit → Act → World → Prop) (e : Exit) (a : Act) (w : World) (q : outParam Prop) : Prop where
  i : q → Exit.inBlock i Q e a w
section
variable {K : Act → World → Prop} {Q : Exit → Act → World → Prop} {i : Nat} {a : Act} {w : World}
theorem oXt {e : Exit} {q : Prop} [h : Xt K Q e a w q] (hq : q) : Exit.then K Q e a w := h.i hq
theorem oXb {e : Exit} {q : Prop} [h : Xb i Q e a w q] (hq : q) : Exit.inBlock i Q e a w := h.i hq
instance : Xt K Q (.exit i) a w (Q (.exit i) a w) := ⟨id⟩
instance : Xt K Q .ret a w (Q .ret a w) := ⟨id⟩
instance : Xt K Q .normal a w (K a w) := ⟨id⟩
instance : Xb i Q .ret a w (Q .ret a w) := ⟨id⟩
instance : Xb i Q .normal a w (Q .normal a w) := ⟨id⟩
theorem ib_hit (h : Q .normal a w) : Exit.inBlock i Q (.exit i) a w := by simp only [Exit.inBlock, if_true]; exact h
instance : Xb i Q (.exit i) a w (Q .normal a w) := ⟨ib_hit⟩
theorem ib_miss {j : Nat} (hij : (j == i) = false) (h : Q (.exit j) a w) : Exit.inBlock i Q (.exit j) a w := by
  have : ¬ j = i := by simpa using hij
  simp only [Exit.inBlock, this, if_false]; exact h
end
end Go.Proofs.YtdiibenofbcfnaaGreat

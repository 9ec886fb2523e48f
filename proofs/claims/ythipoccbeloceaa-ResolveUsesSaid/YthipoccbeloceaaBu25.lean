/- Several texts put together: RpM, RpK, RpP, RpW, RpX, RpY. -/
import Derived.Test.YthipoccbeloceaaBu23
set_option linter.unusedSimpArgs false
set_option linter.unusedVariables false
namespace Go.Proofs.Ythipoccbeloceaa
open Go.RowKit
class Ps (cs : List Value) (k : Nat) (vs : List Value) (cs' : outParam (List Value)) : Prop where
  e : cs.take k ++ vs ++ cs.drop (k + vs.length) = cs'
  l : k + vs.length ≤ cs.length
instance {cs : List Value} : Ps cs 0 [] cs := ⟨(by simp), (by simp)⟩
instance {u v : Value} {cs vs cs' : List Value} [h : Ps cs 0 vs cs'] : Ps (u :: cs) 0 (v :: vs) (v :: cs') := ⟨(by have := h.e; simp at this ⊢; exact this), (by have := h.l; simp at this ⊢; exact this)⟩
instance {u : Value} {k : Nat} {cs vs cs' : List Value} [h : Ps cs k vs cs'] : Ps (u :: cs) (k + 1) vs (u :: cs') := ⟨(by rw [List.take_succ_cons, show k + 1 + vs.length = (k + vs.length) + 1 by omega, List.drop_succ_cons, List.cons_append, List.cons_append, h.e]), (by have := h.l; rw [List.length_cons]; omega)⟩
theorem oT4 {o : Oper} {a : Act} {w0 w : World} {X : List Nat} {S : World → Prop} {bs : List Bx} {rs : List Rw} {F : List Cold} {K : Act → World → Prop} {Q : Exit → Act → World → Prop} (HO : Hid (Own w0 X S bs rs F w)) {ty : TypeId} {x y : Operand} (ho : o.op = .store ty x y) (hdst : o.dst = none) {b k : Nat} (hx : a.eval x = .pointer (some ⟨b, k, none⟩)) {vs : List Value} (hy : a.eval y = .agg vs.toArray) {t : TypeId} {cs cs' : List Value} {f : List Value → List Bx} {n : Nat} [T : TN ty n] [m : Bu bs b t cs f] [O : Ocs vs n] [p : Ps cs k vs cs'] (h : ∀ W, Hid (Own w0 X S (f cs') rs F W) → K a W) : WOp Try.prog o a w K Q := wo_store_at HO ho hdst hx hy m.m p.e (m.c cs') T.s O.n p.l O.o h
theorem arm_intoZ {p : RPar} {b c d : Nat} {ts : List TokF} (C_place : Hid (∀ k, k < ts.length → RC 84 #[.agg #[.slice (some ⟨b, 0, none⟩) ts.length c], .int .i64 (k : Int), .int .i64 (d : Int)] (rplace ts p k) VG b c ts (k + 1))) {w0 w : World} {bs : List Bx} {rs : List Rw} {F : List Cold} {β : Type} {kk : NodeT → Nat → GR β} {R : GR β} {k kd at' i : Nat} {s : List Nat} {l : List NodeT} {A : Option Addr} {c' : Nat} {K : FuncId} {args : Array Value} {T : Ending → World → Prop} (HO : Hid (Own w0 [] (RS b c ts w0.heap.size) bs rs F w)) (HF : Hid ((rinto ts p (.mk kd at' s 0 i l) k).bind kk = R)) (hK : K = 82) (hargs : args = #[.agg #[.slice (some ⟨b, 0, none⟩) ts.length c], .agg #[.int .i64 (kd : Int), .int .i64 (at' : Int), .string (strN s), .bool false, .int .u64 0, .int .u64 0, .int .i64 (i : Int), .slice A l.length c'], .int .i64 (k : Int), .int .i64 (d : Int)]) (hk : k < ts.length) (hm : Cold.kids A l ∈ F) (hc : l.length ≤ c') (hl : l.length ≤ 1000) (hi : i ≤ 1000)
    (hok : ∀ x A e a W, Hid (Own w0 [] (RS b c ts w0.heap.size) bs rs (Cold.kids A x.l :: F) W) → x.l.length ≤ e → k ≤ a → a < ts.length → Hid (kk x a = R) → T (.returned (.agg #[.int .i64 ((NodeT.k x : Nat) : Int), .int .i64 ((NodeT.at' x : Nat) : Int), .string (strN (NodeT.s x)), .bool (zn (NodeT.z x)), .int .u64 (zh (NodeT.z x)), .int .u64 (zl (NodeT.z x)), .int .i64 ((NodeT.i x : Nat) : Int), .slice A (NodeT.l x).length e, .int .i64 (a : Int), .int .i64 0])) W)
    (herr : ∀ a q W, Hid (Own w0 [] (RS b c ts w0.heap.size) bs rs F W) → (q != 0) = true → Hid (R = .err a q) → T (.returned (.agg #[.int .i64 0, .int .i64 0, .string { data := #[] }, .bool false, .int .u64 0, .int .u64 0, .int .i64 0, .slice none 0 0, .int .i64 (a : Int), .int .i64 q])) W) : Calls Try.prog K args w T :=
  arm_into (n := .mk kd at' s 0 i l) C_place HO HF hK (by rw [hargs, nv0]) hk hm hc hl hi hok herr
open Go.RowKit
def RKeep (w0 : World) (b c : Nat) (bs : List Bx) (rs : List Rw) (F : List Cold) (ts : List TokF) (m : Nat) (r : GR NodeT) (e : Ending) (W : World) : Prop := match r with
  | .ok x a => m ≤ a ∧ a < ts.length ∧ ∃ A e', e = .returned (.agg #[.int .i64 ((NodeT.k x : Nat) : Int), .int .i64 ((NodeT.at' x : Nat) : Int), .string (strN (NodeT.s x)), .bool (zn (NodeT.z x)), .int .u64 (zh (NodeT.z x)), .int .u64 (zl (NodeT.z x)), .int .i64 ((NodeT.i x : Nat) : Int), .slice A (NodeT.l x).length e', .int .i64 (a : Int), .int .i64 0]) ∧ x.l.length ≤ e' ∧ Own w0 [] (RS b c ts w0.heap.size) bs rs (Cold.kids A x.l :: F) W
  | .err a q => (q != 0) = true ∧ e = .returned (.agg #[.int .i64 0, .int .i64 0, .string { data := #[] }, .bool false, .int .u64 0, .int .u64 0, .int .i64 0, .slice none 0 0, .int .i64 (a : Int), .int .i64 q]) ∧ Own w0 [] (RS b c ts w0.heap.size) bs rs F W
theorem subF {c x : Cold} {F G : List Cold} (hx : x ∈ G) (hF : ∀ c ∈ F, c ∈ G) (h : c ∈ x :: F) : c ∈ G := by
  rcases List.mem_cons.1 h with rfl | h
  · exact hx
  · exact hF c h
section
variable {b c m a : Nat} {ts : List TokF} {w0 W : World} {bs bs' : List Bx} {rs : List Rw} {F F' : List Cold} {f : GR NodeT} {x : NodeT} {A : Option Addr}
theorem rk_ok {e : Nat} (HO : Hid (Own w0 [] (RS b c ts w0.heap.size) bs' rs F' W)) (HF : Hid (.ok x a = f)) (hm : m ≤ a) (ha : a < ts.length) (he : x.l.length ≤ e) (hb : bs.Sublist bs') (hx : Cold.kids A x.l ∈ F') (hF : ∀ c ∈ F, c ∈ F') : RKeep w0 b c bs rs F ts m f (.returned (.agg #[.int .i64 ((NodeT.k x : Nat) : Int), .int .i64 ((NodeT.at' x : Nat) : Int), .string (strN (NodeT.s x)), .bool (zn (NodeT.z x)), .int .u64 (zh (NodeT.z x)), .int .u64 (zl (NodeT.z x)), .int .i64 ((NodeT.i x : Nat) : Int), .slice A (NodeT.l x).length e, .int .i64 (a : Int), .int .i64 0])) W := by
  rw [← HF.out]
  exact ⟨hm, ha, A, e, rfl, he, HO.out.sub hb (List.Sublist.refl _) fun c hc => subF hx hF hc⟩
theorem rk_err {q : Int} (HO : Hid (Own w0 [] (RS b c ts w0.heap.size) bs' rs F' W)) (hq : (q != 0) = true) (HE : Hid (f = .err a q)) (hb : bs.Sublist bs') (hF : ∀ c ∈ F, c ∈ F') : RKeep w0 b c bs rs F ts m f (.returned (.agg #[.int .i64 0, .int .i64 0, .string { data := #[] }, .bool false, .int .u64 0, .int .u64 0, .int .i64 0, .slice none 0 0, .int .i64 (a : Int), .int .i64 q])) W := by
  rw [HE.out]
  exact ⟨hq, rfl, HO.out.sub hb (List.Sublist.refl _) hF⟩
end
def LoopR {w0 w : World} {b c : Nat} {ts : List TokF} {rb gb : Nat} {z g : List Value} {t1 t2 : TypeId} {bs : List Bx} {rs : List Rw} {x0 : Cold} {F : List Cold} (_ : Hid (Own w0 [] (RS b c ts w0.heap.size) (⟨rb, t1, z⟩ :: ⟨gb, t2, g⟩ :: bs) rs (x0 :: F) w)) (k : Nat) (lp : Nat → NodeT → Nat → GR NodeT) (R : GR NodeT) (gk : Nat) (W : World) : Prop :=
  (∃ (x : NodeT) (A : Option Addr) (e q f : Nat), gk = f + 1 ∧ q < ts.length ∧ k ≤ q ∧ ts.length ≤ f + q ∧ x.l.length ≤ e ∧ Hid (lp f x q = R) ∧ Hid (Own w0 [] (RS b c ts w0.heap.size) (⟨rb, t1, z⟩ :: ⟨gb, t2, [.int .i64 ((NodeT.k x : Nat) : Int), .int .i64 ((NodeT.at' x : Nat) : Int), .string (strN (NodeT.s x)), .bool (zn (NodeT.z x)), .int .u64 (zh (NodeT.z x)), .int .u64 (zl (NodeT.z x)), .int .i64 ((NodeT.i x : Nat) : Int), .slice A (NodeT.l x).length e, .int .i64 ((q : Nat) : Int), .int .i64 0]⟩ :: bs) rs (Cold.kids A x.l :: F) W)) ∨
  (∃ a v, gk = 0 ∧ (v != 0) = true ∧ Hid (R = .err a v) ∧ Hid (Own w0 [] (RS b c ts w0.heap.size) (⟨rb, t1, z⟩ :: ⟨gb, t2, [.int .i64 0, .int .i64 0, .string { data := #[] }, .bool false, .int .u64 0, .int .u64 0, .int .i64 0, .slice none 0 0, .int .i64 ((a : Nat) : Int), .int .i64 v]⟩ :: bs) rs F W))
set_option maxRecDepth 100000 in
set_option maxHeartbeats 3200000 in
theorem rreads_any (p : RPar) (b c : Nat) (ts : List TokF) (d : Nat) (H_place : ∀ k, k < ts.length → RC 84 #[.agg #[.slice (some ⟨b, 0, none⟩) ts.length c], .int .i64 (k : Int), .int .i64 (d : Int)] (rplace ts p k) VG b c ts (k + 1)) (w0 w : World) (bs : List Bx) (rs : List Rw) (F : List Cold) (HO : Hid (Own w0 [] (RS b c ts w0.heap.size) bs rs F w)) (x : NodeT) (A : Option Addr) (e k : Nat) (hx : Cold.kids A x.l ∈ F) (he : x.l.length ≤ e) (hk : k < ts.length) :
    Calls Try.prog 79 #[.agg #[.slice (some ⟨b, 0, none⟩) ts.length c], .agg #[.int .i64 ((NodeT.k x : Nat) : Int), .int .i64 ((NodeT.at' x : Nat) : Int), .string (strN (NodeT.s x)), .bool (zn (NodeT.z x)), .int .u64 (zh (NodeT.z x)), .int .u64 (zl (NodeT.z x)), .int .i64 ((NodeT.i x : Nat) : Int), .slice A (NodeT.l x).length e, .int .i64 (k : Int), .int .i64 0], .int .i64 (d : Int)] w (RKeep w0 b c bs rs F ts k (rreads ts p x k)) := by
  obtain ⟨R, hR⟩ : ∃ R, rreads ts p x k = R := ⟨_, rfl⟩
  rw [hR]
  unfold rreads at hR
  have HF := Lib.hid hR
  have hlen := HO.out.st.ok.len
  have C_place := Lib.hid H_place
  have HX := Lib.hid hx
  have HO1 := Lib.hid (HO.out.coldAll (Cold.kids A x.l) (HO.out.cold _ hx))
  clear hR H_place hx HO
  have HO := HO1
  clear HO1
  go_enter Try.func79, Try.ntmps79
  (repeat' (first | ((with_reducible refine zG ?_); first | refine oWx ?_ | (refine oWs ?_; clear HO; intro _ HO) | (refine oWj ?_; clear HO; intro _ HO HB)) | go_values | go_skip | go_guarded | go_step | go_upon | (go_ite <;> go_prune <;> (try go_simp))))
  have HO0 := HO
  go_loopg [] (ts.length + 1) (fun gk W => LoopR HO0 k (fun f x q => loopG (fun _ k => ris ts k [124, 38] && ris ts (k + 1) [103, 101, 116, 108, 105, 110, 101]) (fun x k => rinto ts p (.mk 20 x.at' [] 0 2 [x]) (k + 2)) f x q) R gk W)
  case atStart => exact .inl ⟨x, A, e, k, ts.length, rfl, hk, Nat.le_refl _, by omega, he, HF, HO⟩
  case round =>
    clear HO HF
    rcases hrel with ⟨y, A1, e1, q, f, rfl, hq, hkq, hf, he1, HF, HO⟩ | ⟨a, v, rfl, hv, HE, HO⟩
    · have hqI : (q : Int) < (ts.length : Int) := by omega
      obtain ⟨f, rfl⟩ : ∃ f', f = f' + 1 := ⟨f - 1, by omega⟩
      dsimp only at HF
      rw [loopG] at HF
      (repeat' (first | ((with_reducible refine zG ?_); first | refine oWx ?_ | (refine oWs ?_; clear HO; intro _ HO) | (refine oWj ?_; clear HO; intro _ HO HB)) | ((with_reducible refine zG ?_); refine oWn ?_; clear HO; intro _ HO) | ((go_big_may; first | (go_at_call 32; refine arm_is [124, 38] (by decide) (by omega) HO rfl rfl ?_; clear HO; intro _ z hz hlt HO; cases z <;> (try simp only [hz, ↓reduceIte, bZ] at HF) <;> (first | (replace hlt := hlt rfl) | clear hlt)) | (go_at_call 32; refine arm_is [103, 101, 116, 108, 105, 110, 101] (by decide) (by omega) HO rfl rfl ?_; clear HO; intro _ z hz hlt HO; cases z <;> (try simp only [hz, ↓reduceIte, bZ] at HF) <;> (first | (replace hlt := hlt rfl) | clear hlt)) | (go_at_call 82; (first | refine arm_intoZ C_place HO HF rfl rfl ?_ ?_ ?_ ?_ ?_ ?_ ?_ | refine arm_intoZ C_place HO (gr_eta HF) rfl rfl ?_ ?_ ?_ ?_ ?_ ?_ ?_); (omega); (repeat (first | exact mH | apply mT)); (first | exact Nat.le_refl _ | decide); (first | decide | simp); (first | decide | simp); (clear HO HF; intro _ _ _ _ _ HO _ hle hlt HF); rotate_left; (clear HO HF; intro _ _ _ HO hq HE); rotate_left) | fail) <;> (try dsimp only)) | go_values | go_skip | go_guarded | go_step | go_upon | (go_ite <;> go_prune <;> (try go_simp))))
      all_goals first
        | (refine oBc HO (t := 6) (ty := 116) rfl rfl rfl ?_
           exact rk_ok HO HF (by omega) hq he1 (by repeat (first | exact List.Sublist.refl _ | apply List.Sublist.cons)) mM (fun c hc => by repeat (first | exact hc | apply mT)))
        | (go_roundg (f + 1)
           case rel => exact .inl ⟨_, _, _, _, f, rfl, hlt, by omega, by omega, by assumption, HF, Lib.hid (HO.out.sub (List.Sublist.refl _) (List.Sublist.refl _) (fun c hc => subF mH (fun c hc => by repeat (first | exact hc | apply mT)) hc))⟩
           case measure => omega)
        | (go_roundg 0
           case rel => exact .inr ⟨_, _, rfl, hq, HE, Lib.hid (HO.out.sub (List.Sublist.refl _) (List.Sublist.refl _) (fun c hc => by repeat (first | exact hc | apply mT)))⟩
           case measure => omega)
    · have hv' : (v == 0) = false := by rw [bne] at hv; simpa using hv
      (repeat' (first | ((with_reducible refine zG ?_); first | refine oWx ?_ | (refine oWs ?_; clear HO; intro _ HO) | (refine oWj ?_; clear HO; intro _ HO HB)) | go_values | go_skip | go_guarded | go_step | go_upon | (go_ite <;> go_prune <;> (try go_simp))))
      refine oBc HO (t := 6) (ty := 116) rfl rfl rfl ?_
      exact rk_err HO hv HE (by repeat (first | exact List.Sublist.refl _ | apply List.Sublist.cons)) (fun c hc => by repeat (first | exact hc | apply mT))
open Go.RowKit
set_option maxRecDepth 100000 in
set_option maxHeartbeats 3200000 in
theorem rlev8_any (p : RPar) (b c : Nat) (ts : List TokF) (d : Nat) (H_signed : ∀ k, k < ts.length → RC 78 #[.agg #[.slice (some ⟨b, 0, none⟩) ts.length c], .int .i64 (k : Int), .int .i64 (d : Int)] (rsigned ts p k) VG b c ts (k + 1)) (k : Nat) (hk : k < ts.length) : RC 68 #[.agg #[.slice (some ⟨b, 0, none⟩) ts.length c], .int .i64 (k : Int), .int .i64 (d : Int), .int .i64 8] (rsigned ts p k) VG b c ts (k + 1) := by
  intro w h
  obtain ⟨R, hR⟩ : ∃ R, rsigned ts p k = R := ⟨_, rfl⟩
  rw [hR]
  have HF := Lib.hid hR
  have HO := h.ownN
  have hlen := h.ok.len
  have C_signed := Lib.hid H_signed
  clear h hR H_signed
  go_enter Try.func68, Try.ntmps68
  (repeat' (first | ((with_reducible refine zG ?_); first | refine oWx ?_ | (refine oWs ?_; clear HO; intro _ HO) | (refine oWj ?_; clear HO; intro _ HO HB)) | ((go_big_may; first | (go_at_call 78; (first | refine arm_rn rfl ?_ (C_signed.out _ ?_) HO HF ?_ ?_ | refine arm_rn rfl ?_ (C_signed.out _ ?_) HO (gr_eta HF) ?_ ?_); (first | with_reducible rfl | rfl | (rw [IntWalk.i64_in _ (by omega)]; rfl)); (omega); (clear HO HF; intro _ _ _ _ _ HO _ hle hlt HF); rotate_left; (clear HO HF; intro _ _ _ HO hq HE); rotate_left)) <;> (try dsimp only)) | go_values | go_skip | go_guarded | go_step | go_upon | (go_ite <;> go_prune <;> (try go_simp))))
  all_goals (refine oBc HO (t := 8) (ty := 116) rfl rfl rfl ?_; exact rFin)
def LoopV {w0 w : World} {b c : Nat} {ts : List TokF} {gb : Nat} {t2 : TypeId} {bs : List Bx} {rs : List Rw} {cs : List Value} {F : List Cold} (_ : Hid (Own w0 [] (RS b c ts w0.heap.size) (⟨gb, t2, cs⟩ :: bs) rs F w)) (k : Nat) (lp : Nat → NodeT → Nat → GR NodeT) (R : GR NodeT) (gk : Nat) (W : World) : Prop :=
  ∃ (x : NodeT) (A : Option Addr) (e q : Nat), q < ts.length ∧ k ≤ q ∧ ts.length ≤ gk + q ∧ x.l.length ≤ e ∧ Hid (lp gk x q = R) ∧ Hid (Own w0 [] (RS b c ts w0.heap.size) (⟨gb, t2, [.int .i64 ((NodeT.k x : Nat) : Int), .int .i64 ((NodeT.at' x : Nat) : Int), .string (strN (NodeT.s x)), .bool (zn (NodeT.z x)), .int .u64 (zh (NodeT.z x)), .int .u64 (zl (NodeT.z x)), .int .i64 ((NodeT.i x : Nat) : Int), .slice A (NodeT.l x).length e, .int .i64 ((q : Nat) : Int), .int .i64 0]⟩ :: bs) rs [Cold.kids A x.l, Cold.kids none []] W)
def SameO {w0 w : World} {X : List Nat} {S : World → Prop} {bs : List Bx} {rs : List Rw} {F : List Cold} (_ : Hid (Own w0 X S bs rs F w)) (W : World) : Prop := Hid (Own w0 X S bs rs F W)
theorem gr_assoc {α β γ : Type} (m : GR α) (f : α → Nat → GR β) (g : β → Nat → GR γ) : (m.bind f).bind g = m.bind fun x k => (f x k).bind g := by cases m <;> rfl
theorem gr_okb {α β : Type} (x : α) (k : Nat) (f : α → Nat → GR β) : (GR.ok x k).bind f = f x k := rfl
open Go.RowKit
theorem gr_ite {α β : Type} (z : Prop) [Decidable z] (m n : GR α) (f : α → Nat → GR β) : (if z then m else n).bind f = if z then m.bind f else n.bind f := by split <;> rfl
section
variable {b c n m : Nat} {ts : List TokF} {w0 w W : World} {bs : List Bx} {rs : List Rw} {F : List Cold} {X : List Nat} {S : World → Prop}
theorem rp_nodeE {els : List El} {f : GR NodeT} {A : Option Addr} {a e kd at' i : Nat} {s : List Nat} (HO : Hid (Own w [] (RS b c ts w.heap.size) bs (⟨45, 8, .slice A els.length e, els.length, flatE els⟩ :: rs) F W)) (HF : Hid (.ok (.mk kd at' s 0 i (els.map (·.1))) a = f)) (hE : Cold.els els ∈ F) (hm : m ≤ a) (ha : a < ts.length) (he : els.length ≤ e) : RPost ts m w f VG (.returned (.agg #[.int .i64 (kd : Int), .int .i64 (at' : Int), .string (strN s), .bool false, .int .u64 0, .int .u64 0, .int .i64 (i : Int), .slice A els.length e, .int .i64 (a : Int), .int .i64 0])) W := by
  obtain ⟨A9, c9, e9, hc9, HO9⟩ := HO.out.freeze hE
  injection e9 with e91 _ e92
  subst e91 e92
  refine rp_ok (Lib.hid HO9) HF hm ha ?_ List.mem_cons_self (by show (els.map _).length ≤ _; rw [List.length_map]; exact he)
  rw [nv0g, List.length_map]
def LoopB {v0 v1 v2 v3 v4 v5 v6 : Value} (_ : Hid (Own w0 X S (⟨n, 45, [v0, v1, v2, v3, v4, v5, v6, .slice none 0 0]⟩ :: bs) rs F w)) (g : Nat → List NodeT → Nat → Prop) (v : Value) (W : World) : Prop :=
  ∃ (els : List El) (A : Option Addr) (e f q : Nat), v = .int .i64 (q : Int) ∧ q < m ∧ c ≤ q ∧ m ≤ f + q ∧ els.length ≤ q ∧ els.length ≤ e ∧ Hid (g f (els.map (·.1)) q) ∧ Hid (Own w0 X S (⟨n, 45, [v0, v1, v2, v3, v4, v5, v6, .slice A els.length e]⟩ :: bs) [⟨45, 8, .slice A els.length e, els.length, flatE els⟩] [Cold.els els, Cold.kids none []] W)
end
set_option maxRecDepth 100000 in
set_option maxHeartbeats 3200000 in
theorem rblock_any (p : RPar) (b c : Nat) (ts : List TokF) (d : Nat) (H_stmt : ∀ k, k < ts.length → RC 64 #[.agg #[.slice (some ⟨b, 0, none⟩) ts.length c], .int .i64 (k : Int), .int .i64 (d : Int)] (rstmt ts p k) VG b c ts (k + 1)) (k : Nat) (hk : k < ts.length) : RC 53 #[.agg #[.slice (some ⟨b, 0, none⟩) ts.length c], .int .i64 (k : Int), .int .i64 (d : Int)] (rblock ts p k) VG b c ts (k + 1) := by
  intro w h
  obtain ⟨R, hR⟩ : ∃ R, rblock ts p k = R := ⟨_, rfl⟩
  rw [hR]
  have HF := Lib.hid hR
  have HRS := Lib.hid h
  have HO := h.ownN
  have hlen := h.ok.len
  have hkI : (k : Int) < (ts.length : Int) := by omega
  clear h hR
  have C_stmt := Lib.hid H_stmt
  clear H_stmt
  unfold rblock at HF
  go_enter Try.func53, Try.ntmps53
  (repeat' (first | ((with_reducible refine zG ?_); first | refine oWx ?_ | (refine oWs ?_; clear HO; intro _ HO) | (refine oWj ?_; clear HO; intro _ HO HB)) | ((with_reducible refine to_load ?_); (first | first | refine oR6 HO rfl rfl rfl (by omega) ?_ | refine oR1 HO rfl rfl rfl rfl (by omega) ?_ | refine oR0 HO rfl rfl rfl (by omega) ?_); (try simp only [Act.put, pS])) | ((go_big_may; first | (go_at_call 32; refine arm_is [123] (by decide) (by omega) HO rfl rfl ?_; clear HO; intro _ z hz hlt HO; cases z <;> (try simp only [hz, ↓reduceIte, bZ] at HF) <;> (first | (replace hlt := hlt rfl) | clear hlt)) | (go_at_call 63; refine arm_bad HO rfl rfl ?_; clear HO; intro _ HO) | (go_at_call 30; refine arm_ends (by omega) HO rfl rfl ?_; clear HO; intro _ q hq hle hlt HO; (try simp only [hq] at HF))) <;> (try dsimp only)) | go_values | go_skip | go_guarded | go_step | go_upon | (go_ite <;> go_prune <;> (try go_simp))))
  all_goals (first | (refine oBc HO (t := 6) (ty := 116) rfl rfl rfl ?_; exact rFin) | skip)
  have HO0 := HO
  go_loopw [1] (fun v W => LoopB (m := ts.length) (c := k) HO0 (fun f l q => (loopG (fun _ k => !ris ts k [125]) (rblockS ts p) f l q).bind (fun l k1 => GR.ok (NodeT.mk 41 (tk ts k).at' [] 0 0 l) (k1 + 1)) = R) v W) (fun kv _ => ts.length - (intOf kv).toNat)
  case atStart => exact ⟨[], none, 0, ts.length, q, rfl, hlt, by omega, by omega, by simp, Nat.le_refl _, by rw [← hq] at HF ⊢; exact HF, Lib.hid ((HO.out.nilRow _ _).elsNil)⟩
  case round =>
    clear HO HF
    obtain ⟨els, A, ce, f, q, rfl, hq0, hkq, hf, hlq, hle0, HF, HO⟩ := hrel
    obtain ⟨f, rfl⟩ : ∃ f', f = f' + 1 := ⟨f - 1, by omega⟩
    have hqI : (q : Int) < (ts.length : Int) := by omega
    dsimp only at HF
    rw [loopG] at HF
    simp only [gr_ite, rblockS, gr_assoc, gr_okb] at HF
    (repeat' (first | ((with_reducible refine zG ?_); first | refine oWx ?_ | (refine oWs ?_; clear HO; intro _ HO) | (refine oWj ?_; clear HO; intro _ HO HB)) | ((with_reducible refine zG ?_); refine oWn ?_; clear HO; intro _ HO) | ((with_reducible refine to_append ?_); refine wo_appN HO mM rfl rfl rfl mM (by first | omega | simp) ?_; clear HO; intro eN _ _ _ hmap hlen hcap HO; replace hlen := Lib.hid hlen; (try simp only [Act.put, pS])) | ((go_big_may; first | (go_at_call 32; refine arm_is [125] (by decide) (by omega) HO rfl rfl ?_; clear HO; intro _ z hz hlt HO; cases z <;> (try simp only [hz, ↓reduceIte, bZ] at HF) <;> (first | (replace hlt := hlt rfl) | clear hlt)) | (go_at_call 64; (first | refine arm_rn rfl ?_ (C_stmt.out _ ?_) HO HF ?_ ?_ | refine arm_rn rfl ?_ (C_stmt.out _ ?_) HO (gr_eta HF) ?_ ?_); (first | with_reducible rfl | rfl | (rw [IntWalk.i64_in _ (by omega)]; rfl)); (omega); (clear HO HF; intro _ _ _ _ _ HO _ hle hlt HF); rotate_left; (clear HO HF; intro _ _ _ HO hq HE); rotate_left) | fail) <;> (try dsimp only)) | go_values | go_skip | go_guarded | go_step | go_upon | (go_ite <;> go_prune <;> (try go_simp))))
    all_goals first
      | (refine oBc HO (t := 6) (ty := 116) rfl rfl rfl ?_
         first
         | exact rp_err HO (by assumption) HE
         | (refine rp_nodeE HO HF mH ?_ ?_ ?_; (show (_ : Nat) ≤ _; omega); (show (_ : Nat) < _; omega); assumption))
      | skip
    have hl1 := hlen.out
    refine ⟨⟨_, _, _, f, _, rfl, by assumption, by omega, by omega, by omega, hcap, by rw [hmap]; exact HF, Lib.hid (HO.out.sub (List.sublist_cons_self _ _) (List.Sublist.refl _) (fun c hc => mem2 hc mM mM))⟩, ?_⟩
    exact meas2 rfl (by omega) hq0
open Go.RowKit
set_option maxRecDepth 100000 in
set_option maxHeartbeats 3200000 in
theorem shut_ok {b c : Nat} {ts : List TokF} {k : Nat} (hk : k < ts.length) (x : NodeT) (A : Option Addr) (e : Nat) (w : World) (h : RS b c ts w.heap.size w) :
    Calls Try.prog 70 #[.agg #[.slice (some ⟨b, 0, none⟩) ts.length c], .agg #[.int .i64 ((NodeT.k x : Nat) : Int), .int .i64 ((NodeT.at' x : Nat) : Int), .string (strN (NodeT.s x)), .bool (zn (NodeT.z x)), .int .u64 (zh (NodeT.z x)), .int .u64 (zl (NodeT.z x)), .int .i64 ((NodeT.i x : Nat) : Int), .slice A (NodeT.l x).length e, .int .i64 (k : Int), .int .i64 0]] w fun r w' => (((rstops ts k = true) ∧ r = .returned (.agg #[.int .i64 ((NodeT.k x : Nat) : Int), .int .i64 ((NodeT.at' x : Nat) : Int), .string (strN (NodeT.s x)), .bool (zn (NodeT.z x)), .int .u64 (zh (NodeT.z x)), .int .u64 (zl (NodeT.z x)), .int .i64 ((NodeT.i x : Nat) : Int), .slice A (NodeT.l x).length e, .int .i64 ((rends ts k) : Int), .int .i64 0])) ∨ (rstops ts k = false ∧ r = .returned (.agg #[.int .i64 0, .int .i64 0, .string { data := #[] }, .bool false, .int .u64 0, .int .u64 0, .int .i64 0, .slice none 0 0, .int .i64 (k : Int), .int .i64 4]))) ∧ Below w.heap.size w w' := by
  have HO := h.own
  have hlen := h.ok.len
  have HF := Lib.hid (rfl : True = True)
  clear h
  go_enter Try.func70, Try.ntmps70
  (repeat' (first | ((with_reducible refine zG ?_); first | refine oWx ?_ | (refine oWs ?_; clear HO; intro _ HO)) | ((go_big_may; first | (go_at_call 33; refine arm_stops (by omega) HO rfl rfl ?_; clear HO; intro _ z hz hlt HO; cases z <;> (try simp only [hz, ↓reduceIte, bZ] at HF) <;> (first | (replace hlt := hlt rfl) | clear hlt)) | (go_at_call 63; refine arm_bad HO rfl rfl ?_; clear HO; intro _ HO)) <;> (try dsimp only)) | go_values | go_skip | go_guarded | go_step | go_upon | (go_ite <;> go_prune <;> (try go_simp))))
  all_goals first
    | (refine oBc HO (t := 4) (ty := 116) rfl rfl rfl ?_
       exact ⟨.inr ⟨hz, rfl⟩, HO.out.kept.below⟩)
    | skip
  refine eBe HO [7] [0, 3, 1, 2, 4, 5, 6] [7] ?_
  clear HO
  intro _ HO
  (repeat' (first | ((with_reducible refine zG ?_); first | (refine oWf ?_; intro K hK) | refine oWe ?_ | refine oWr ?_ | refine oWp ?_) | ((with_reducible refine zG ?_); first | (refine oWg ?_; intro K hK) | (refine oWk ?_; clear hK K) | (refine oWs ?_; clear HO; intro _ HO)) | ((first | (go_at_call 30; refine arm_ends (by omega) HO rfl rfl ?_; clear HO; intro _ q hq hle hlt HO; (try simp only [hq] at HF))) <;> (try dsimp only)) | ((with_reducible refine eOp ?_); go_simp)))
  all_goals
    (repeat' (first | ((with_reducible refine zG ?_); first | refine oWx ?_ | (refine oWs ?_; clear HO; intro _ HO)) | go_values | go_skip | go_guarded | go_step | go_upon | (go_ite <;> go_prune <;> (try go_simp))))
    refine oBc HO (t := 4) (ty := 116) rfl rfl rfl ?_
    exact ⟨.inl ⟨hz, by rw [hq]⟩, HO.out.kept.below⟩
set_option maxRecDepth 100000 in
set_option maxHeartbeats 3200000 in
theorem shut_err {b c : Nat} {ts : List TokF} {k : Nat} {q : Int} (hq : (q != 0) = true) (w : World) (h : RS b c ts w.heap.size w) :
    Calls Try.prog 70 #[.agg #[.slice (some ⟨b, 0, none⟩) ts.length c], .agg #[.int .i64 0, .int .i64 0, .string { data := #[] }, .bool false, .int .u64 0, .int .u64 0, .int .i64 0, .slice none 0 0, .int .i64 (k : Int), .int .i64 q]] w fun r w' => r = .returned (.agg #[.int .i64 0, .int .i64 0, .string { data := #[] }, .bool false, .int .u64 0, .int .u64 0, .int .i64 0, .slice none 0 0, .int .i64 (k : Int), .int .i64 q]) ∧ Below w.heap.size w w' := by
  have HO := h.own
  clear h
  go_enter Try.func70, Try.ntmps70
  (repeat' (first | ((with_reducible refine zG ?_); first | refine oWx ?_ | (refine oWs ?_; clear HO; intro _ HO)) | go_values | go_skip | go_guarded | go_step | go_upon | (go_ite <;> go_prune <;> (try go_simp))))
  refine oBc HO (t := 4) (ty := 116) rfl rfl rfl ?_
  exact ⟨rfl, HO.out.kept.below⟩
section
variable {b c a : Nat} {ts : List TokF} {w0 w : World} {bs : List Bx} {rs : List Rw} {F : List Cold} {T : Ending → World → Prop} {K : FuncId} {args : Array Value} {R : GR NodeT}
theorem arm_shutE {q : Int} (HO : Hid (Own w0 [] (RS b c ts w0.heap.size) bs rs F w)) (hq : (q != 0) = true) (hK : K = 70) (hargs : args = #[.agg #[.slice (some ⟨b, 0, none⟩) ts.length c], .agg #[.int .i64 0, .int .i64 0, .string { data := #[] }, .bool false, .int .u64 0, .int .u64 0, .int .i64 0, .slice none 0 0, .int .i64 (a : Int), .int .i64 q]]) (h : ∀ W, Hid (Own w0 [] (RS b c ts w0.heap.size) bs rs F W) → T (.returned (.agg #[.int .i64 0, .int .i64 0, .string { data := #[] }, .bool false, .int .u64 0, .int .u64 0, .int .i64 0, .slice none 0 0, .int .i64 (a : Int), .int .i64 q])) W) : Calls Try.prog K args w T := by
  subst hK hargs
  refine (shut_err hq w HO.out.st.more).mono fun e W hp => ?_
  obtain ⟨rfl, q⟩ := hp
  exact h W (Lib.hid (HO.out.next q))
theorem arm_shut {x : NodeT} {A : Option Addr} {e : Nat} (HO : Hid (Own w0 [] (RS b c ts w0.heap.size) bs rs F w)) (HF : Hid (rshut ts x a = R)) (ha : a < ts.length) (hK : K = 70) (hargs : args = #[.agg #[.slice (some ⟨b, 0, none⟩) ts.length c], .agg #[.int .i64 ((NodeT.k x : Nat) : Int), .int .i64 ((NodeT.at' x : Nat) : Int), .string (strN (NodeT.s x)), .bool (zn (NodeT.z x)), .int .u64 (zh (NodeT.z x)), .int .u64 (zl (NodeT.z x)), .int .i64 ((NodeT.i x : Nat) : Int), .slice A (NodeT.l x).length e, .int .i64 (a : Int), .int .i64 0]])
    (hok : ∀ W q, Hid (Own w0 [] (RS b c ts w0.heap.size) bs rs F W) → a ≤ q → q < ts.length → Hid (GR.ok x q = R) → T (.returned (.agg #[.int .i64 ((NodeT.k x : Nat) : Int), .int .i64 ((NodeT.at' x : Nat) : Int), .string (strN (NodeT.s x)), .bool (zn (NodeT.z x)), .int .u64 (zh (NodeT.z x)), .int .u64 (zl (NodeT.z x)), .int .i64 ((NodeT.i x : Nat) : Int), .slice A (NodeT.l x).length e, .int .i64 (q : Int), .int .i64 0])) W)
    (herr : ∀ W, Hid (Own w0 [] (RS b c ts w0.heap.size) bs rs F W) → Hid (R = .err a 4) → T (.returned (.agg #[.int .i64 0, .int .i64 0, .string { data := #[] }, .bool false, .int .u64 0, .int .u64 0, .int .i64 0, .slice none 0 0, .int .i64 (a : Int), .int .i64 4])) W) : Calls Try.prog K args w T := by
  subst hK hargs
  refine (shut_ok ha x A e w HO.out.st.more).mono fun r W hp => ?_
  obtain ⟨hp, q⟩ := hp
  rcases hp with ⟨h1, rfl⟩ | ⟨h1, rfl⟩
  · exact hok W _ (Lib.hid (HO.out.next q)) (rendsF_le ts _ a) (rendsF_lt HO.out.st.ok _ a ha) (Lib.hid (by rw [← HF.out]; unfold rshut; rw [h1]; rfl))
  · exact herr W (Lib.hid (HO.out.next q)) (Lib.hid (by rw [← HF.out]; unfold rshut; rw [h1]; rfl))
theorem arm_shutZ {kd at' i e : Nat} {s : List Nat} {l : List NodeT} {A : Option Addr} (HO : Hid (Own w0 [] (RS b c ts w0.heap.size) bs rs F w)) (HF : Hid (rshut ts (.mk kd at' s 0 i l) a = R)) (ha : a < ts.length) (hK : K = 70) (hargs : args = #[.agg #[.slice (some ⟨b, 0, none⟩) ts.length c], .agg #[.int .i64 (kd : Int), .int .i64 (at' : Int), .string (strN s), .bool false, .int .u64 0, .int .u64 0, .int .i64 (i : Int), .slice A l.length e, .int .i64 (a : Int), .int .i64 0]])
    (hok : ∀ W q, Hid (Own w0 [] (RS b c ts w0.heap.size) bs rs F W) → a ≤ q → q < ts.length → Hid (GR.ok (.mk kd at' s 0 i l) q = R) → T (.returned (.agg #[.int .i64 (kd : Int), .int .i64 (at' : Int), .string (strN s), .bool false, .int .u64 0, .int .u64 0, .int .i64 (i : Int), .slice A l.length e, .int .i64 (q : Int), .int .i64 0])) W)
    (herr : ∀ W, Hid (Own w0 [] (RS b c ts w0.heap.size) bs rs F W) → Hid (R = .err a 4) → T (.returned (.agg #[.int .i64 0, .int .i64 0, .string { data := #[] }, .bool false, .int .u64 0, .int .u64 0, .int .i64 0, .slice none 0 0, .int .i64 (a : Int), .int .i64 4])) W) : Calls Try.prog K args w T :=
  arm_shut (x := .mk kd at' s 0 i l) HO HF ha hK (by rw [hargs, nv0g]) (fun W q h1 h2 h3 h4 => by rw [nv0g]; exact hok W q h1 h2 h3 h4) herr
end
open Go.RowKit
theorem arm_rlL {b c m : Nat} {ts : List TokF} {w0 w : World} {bs : List Bx} {rs : List Rw} {F : List Cold} {T : Ending → World → Prop} {K : FuncId} {args : Array Value} {β : Type} {R : GR β} {f : GR (List NodeT)} {k : List NodeT → Nat → GR β} {K' : FuncId} {args' : Array Value} (hK : K = K') (hargs : args = args') (HC : RC K' args' f VGL b c ts m) (HO : Hid (Own w0 [] (RS b c ts w0.heap.size) bs rs F w)) (HF : Hid (f.bind k = R))
    (hok : ∀ l A c' a W, f = .ok l a → Hid (Own w0 [] (RS b c ts w0.heap.size) bs rs (Cold.kids A l :: F) W) → l.length ≤ c' → m ≤ a → a < ts.length → Hid (k l a = R) → T (.returned (.agg #[.int .i64 0, .int .i64 0, .string { data := #[] }, .bool false, .int .u64 0, .int .u64 0, .int .i64 0, .slice A l.length c', .int .i64 (a : Int), .int .i64 0])) W)
    (herr : ∀ a q W, Hid (Own w0 [] (RS b c ts w0.heap.size) bs rs F W) → (q != 0) = true → Hid (R = .err a q) → T (.returned (.agg #[.int .i64 0, .int .i64 0, .string { data := #[] }, .bool false, .int .u64 0, .int .u64 0, .int .i64 0, .slice none 0 0, .int .i64 (a : Int), .int .i64 q])) W) : Calls Try.prog K args w T := by
  subst hK hargs
  refine (HC w HO.out.st.more).mono fun e W hp => ?_
  obtain ⟨q, hp⟩ := hp
  cases hr : f with
  | ok x a =>
    rw [hr] at hp
    obtain ⟨h1, h2, v, rfl, A, c', rfl, hc, hk⟩ := hp
    exact hok x A c' a W hr (Lib.hid ((HO.out.next q).addCold (Cold.kids A x) w.heap.size HO.out.kept.size (fun b hb => (HO.out.hot_lt b hb).2) hk)) hc h1 h2 (Lib.hid (gr_ok hr HF.out))
  | err a e =>
    rw [hr] at hp
    obtain ⟨h1, rfl⟩ := hp
    exact herr a e W (Lib.hid (HO.out.next q)) h1 (Lib.hid (gr_err hr HF.out))
theorem rp_nodeY {b c m : Nat} {ts : List TokF} {w W : World} {bs : List Bx} {rs : List Rw} {F : List Cold} {els0 els1 : List El} {f : GR NodeT} {A : Option Addr} {a e kd at' i n : Nat} {s : List Nat} {l : List NodeT} {x : NodeT} (HO : Hid (Own w [] (RS b c ts w.heap.size) bs (⟨45, 8, .slice A n e, n, flatE els0 ++ flatE els1⟩ :: rs) F W)) (hn : n = l.length + 1) (h0 : els0.map (·.1) = l) (h1 : els1.map (·.1) = [x]) (m0 : Cold.els els0 ∈ F) (m1 : Cold.els els1 ∈ F) (HF : Hid (.ok (.mk kd at' s 0 i (l ++ [x])) a = f)) (hm : m ≤ a) (ha : a < ts.length) (he : n ≤ e) : RPost ts m w f VG (.returned (.agg #[.int .i64 (kd : Int), .int .i64 (at' : Int), .string (strN s), .bool false, .int .u64 0, .int .u64 0, .int .i64 (i : Int), .slice A n e, .int .i64 (a : Int), .int .i64 0])) W := by
  have hl : (els0 ++ els1).length = n := by rw [← List.length_map (f := (·.1)), List.map_append, h0, h1, hn]; simp
  subst hl
  rw [← flatE_app] at HO
  have HO2 := Lib.hid (HO.out.coldAll (Cold.els (els0 ++ els1)) (fun y hy => (List.mem_append.1 hy).elim (HO.out.cold _ m0 y) (HO.out.cold _ m1 y)))
  rw [← h0, ← h1, ← List.map_append] at HF
  exact rp_nodeE HO2 HF mH hm ha he
theorem rlistF_len {ts : List TokF} {p : RPar} {e : List Nat} : ∀ (f : Nat) (l : List NodeT) (k : Nat) (l' : List NodeT) (k' : Nat), rlistF ts p e f l k = .ok l' k' → l'.length ≤ l.length + f
  | 0, l, k, l', k', h => by
    rw [rlistF] at h
    injection h with h _
    rw [h]
    omega
  | f + 1, l, k, l', k', h => by
    rw [rlistF] at h
    cases hx : rexpr ts p k with
    | err a q => rw [hx] at h; cases h
    | ok x k1 =>
      rw [hx] at h
      have h2 : (if ris ts k1 [44] = true then rlistF ts p e f (l ++ [x]) (rlines ts (k1 + 1)) else if e = [] then .ok (l ++ [x]) k1 else if ris ts k1 e = true then .ok (l ++ [x]) (k1 + 1) else .err k1 4) = GR.ok l' k' := h
      split at h2
      · have := rlistF_len f _ _ _ _ h2
        simp at this
        omega
      · split at h2
        · injection h2 with h2 _
          rw [← h2]; simp
        · split at h2
          · injection h2 with h2 _
            rw [← h2]; simp
          · cases h2
theorem rlist_len {ts : List TokF} {p : RPar} {e : List Nat} {z : Bool} {k k' : Nat} {l : List NodeT} (h : rlist ts p k e z = .ok l k') : l.length ≤ ts.length := by
  unfold rlist at h
  split at h
  · injection h with h _
    rw [← h]; simp
  · have := rlistF_len _ _ _ _ _ h
    simpa using this
theorem wd_eq {x y : List Nat} (hx : ∀ a ∈ x, a < 256) (hy : ∀ a ∈ y, a < 256) : ((strN x).toList == y.map UInt8.ofNat) = decide (x = y) := by
  rw [← strN_list y]
  exact strN_beq hx hy
end Go.Proofs.Ythipoccbeloceaa

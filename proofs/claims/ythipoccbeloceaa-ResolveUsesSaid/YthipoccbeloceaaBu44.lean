/- Several texts put together: RqG. -/
import Derived.Test.YthipoccbeloceaaBu20
import Derived.Test.YthipoccbeloceaaBu22
import Derived.Test.YthipoccbeloceaaBu28
import Derived.Test.YthipoccbeloceaaBu26
import Derived.Test.YthipoccbeloceaaBu29
import Derived.Test.YthipoccbeloceaaBu30
import Derived.Test.YthipoccbeloceaaBu31
import Derived.Test.YthipoccbeloceaaBu32
import Derived.Test.YthipoccbeloceaaBu33
import Derived.Test.YthipoccbeloceaaBu39
import Derived.Test.YthipoccbeloceaaBu40
import Derived.Test.YthipoccbeloceaaBu37
set_option linter.unusedSimpArgs false
set_option linter.unusedVariables false
namespace Go.Proofs.Ythipoccbeloceaa
open Go.RowKit
theorem rok_step (p : RPar) (b c : Nat) (ts : List TokF) (d : Nat) (hd : d ≤ 64) (hz : p.z = decide (d = 64)) (HP : d < 64 → ROK p b c ts (d + 1)) : ROK ⟨false, rexpr ts p, rcond ts p, rsigned ts p, rstep ts p, ratom ts p, rstmt ts p, rblock ts p, rclause ts p, rloop ts p, rsimple ts p⟩ b c ts d := by
  have H_expr := fun k hk => rexpr_any p b c ts d hd hz HP k hk
  have H_list := fun k e z he hk => rlist_any p b c ts d H_expr k e z he hk
  have H_place := fun k hk => rplace_any p b c ts d hd hz HP H_list k hk
  have H_atom := fun k hk => ratom_any p b c ts d H_place H_list k hk
  have H_step := fun k hk => rstep_any p b c ts d H_place H_atom k hk
  have H_power := fun k hk => rpower_any p b c ts d hd hz HP H_step k hk
  have H_signed := fun k hk => rsigned_any p b c ts d hd hz HP H_power k hk
  have H8 := fun k hk => rlev8_any p b c ts d H_signed k hk
  have H7 := fun k hk => rlevS_any p b c ts d 7 15 _ (rlev7 ts p) (rsigned ts p) (.inr (.inr ⟨rfl, rfl, rfl⟩)) (fun _ => rfl) H8 k hk
  have H6 := fun k hk => rlevS_any p b c ts d 6 15 _ (rlev6 ts p) (rlev7 ts p) (.inr (.inl ⟨rfl, rfl, rfl⟩)) (fun _ => rfl) H7 k hk
  have H5 := fun k hk => rlev5_any p b c ts d H_place H6 k hk
  have H4 := fun k hk => rlev4_any p b c ts d H5 k hk
  have H3 := fun k hk => rlevS_any p b c ts d 3 12 _ (rlev3 ts p) (rlev4 ts p) (.inl ⟨rfl, rfl, rfl⟩) (fun _ => rfl) H4 k hk
  have H2 := fun k hk => rlev2_any p b c ts d H3 k hk
  have H1 := fun k hk => rlevW_any p b c ts d 1 9 _ (rlev1 ts p) (rlev2 ts p) (.inr ⟨rfl, rfl, rfl⟩) (fun _ => rfl) H2 k hk
  have H0 := fun k hk => rlevW_any p b c ts d 0 10 _ (rlev0 ts p) (rlev1 ts p) (.inl ⟨rfl, rfl, rfl⟩) (fun _ => rfl) H1 k hk
  have H_cond := fun k hk => rcond_any p b c ts d hd hz HP H0 H_expr k hk
  have H_clause := fun k hk => rclause_any p b c ts d H_expr k hk
  have H_simple := fun k hk => rsimple_any p b c ts d H_list H_expr H6 k hk
  have H_stmt := fun k hk => rstmt_any p b c ts d hd hz HP k hk
  have H_block := fun k hk => rblock_any p b c ts d H_stmt k hk
  have H_loop := fun k hk => rloop_any p b c ts d H_stmt H_expr H_simple k hk (by omega)
  exact ⟨H_expr, H_cond, H_signed, H_step, H_atom, H_stmt, H_block, H_clause, H_loop, H_simple⟩
theorem rok_all (b c : Nat) (ts : List TokF) : ∀ n d, n + d = 64 → ROK (rp ts (n + 1)) b c ts d
  | 0, d, h => rok_step (rp ts 0) b c ts d (by omega) (by rw [decide_eq_true (by omega)]; rfl) (fun h2 => by omega)
  | n + 1, d, h => rok_step (rp ts (n + 1)) b c ts d (by omega) (by rw [decide_eq_false (by omega)]; rfl) (fun _ => rok_all b c ts n (d + 1) (by omega))
end Go.Proofs.Ythipoccbeloceaa

/-
  Layer 30 (sched): the example; SchedAdmission. By an AI agent.
-/
import Derived.Test.YtmdmmikpmhopkaaK18
import Derived.Test.YtmdmmikpmhopkaaK17
set_option linter.unusedVariables false
set_option linter.unusedSimpArgs false
namespace Go.AL
open Go.Proofs
set_option maxHeartbeats 4000000
noncomputable def C_awk : Cfg := ⟨Try.prog,[E_new,E_add,E_val,E_tic],pmT [],69,[],[],[],[]⟩
theorem es_awk : EsOk Try.prog [E_new,E_add,E_val,E_tic] [] [] := es_cons E_new_ok (es_cons E_add_ok (es_cons E_val_ok (es_cons E_tic_ok (es_nil))))
def Lt_awk : Nat → LD := ldT [(0,⟨[.box 1 1 26 3 tSSd,.list 4 999 3 1 [.int .i64],.c 5 (.int .i64)],[],0⟩)]
noncomputable def M_awk (f : Nat) (a : Unit) : Option (Bool) := (runX (C_awk) Lt_awk (Kret Try.prog [.tmp 0] [.v (.bool)]) f [.code (bodyOf Try.f10)] (initX [] a) : Option (ResT [.v (.bool)]))
noncomputable def L_awk_0 (f : Nat) (x : SSd × (List (Int)) × Int) : Option (Bool) := (runX (C_awk) Lt_awk (Kret Try.prog [.tmp 0] [.v (.bool)]) f (headOf Try.f10 0) ((Lt_awk 0).mk' x) : Option (ResT [.v (.bool)]))
theorem M_awk_eq (f : Nat)  : M_awk (f + 1) () =
  L_awk_0 f ((addS ((addS ((0,0,[]),1,0,4,2)).1,0,1,0,0)).1,[1,1,0,0,1,1,0,0],0) := by kernel_rfl
theorem L_awk_0_eq (f : Nat) (s : SSd) (want : List (Int)) (i : Int) : L_awk_0 (f + 1) (s,want,i) =
  bif decide (i < (↑want.length : Int)) then bif okD s then bif (tckS s).2.2.2.2 != 0 then some false else bif decide (0 ≤ i) && decide (i < (↑want.length : Int)) then bif (tckS s).2.1 != want.getD i.toNat 0 then some false else bif (tckS s).2.2.1 != 1 then some false else bif (tckS s).2.2.2.1 != 0 then some false else L_awk_0 f ((tckS s).1,want,IntKind.i64.wrap (i + 1)) else none else none else some (s.1 == 8) := by kernel_rfl
noncomputable def F_awk_0 : List (Int) → (SSd × (List (Int)) × Nat) → Bool
 | [],(s,want,i) => s.1 == 8
 | uu :: rest,(s,want,i) => bif (tckS s).2.2.2.2 != 0 then false else bif (tckS s).2.1 != uu then false else bif (tckS s).2.2.1 != 1 then false else bif (tckS s).2.2.2.1 != 0 then false else F_awk_0 rest ((tckS s).1,want,i + 1)
noncomputable def P_awk_0 : List (Int) → (SSd × (List (Int)) × Nat) → Bool
 | [],(s,want,i) => true
 | uu :: rest,(s,want,i) => okD s && bif (tckS s).2.2.2.2 != 0 then true else bif (tckS s).2.1 != uu then true else bif (tckS s).2.2.1 != 1 then true else bif (tckS s).2.2.2.1 != 0 then true else P_awk_0 rest ((tckS s).1,want,i + 1)
theorem A_awk_0 : ∀ (rest : List (Int)) (s : SSd) (want : List (Int)) (i : Nat) (hd : want.drop i = rest) (hl : want.length ≤ 1099511627776),Rns (fun f => L_awk_0 f (s,want,((i : Nat) : Int))) (P_awk_0 rest (s,want,i)) (F_awk_0 rest (s,want,i))
 | [],s,want,i,hd,hl => ev_step (T := fun f => some (s.1 == 8)) (fun f => (L_awk_0_eq f _ _ _).trans (by simp only [ge_dec (drop_ge hd),ge0,Bool.and_self,Bool.true_and,cond_true,cond_false,List.length_set] <;> rfl)) ev_some
 | uu :: rest,s,want,i,hd,hl => ev_step (T := fun f => bif okD s then bif (tckS s).2.2.2.2 != 0 then some false else bif (tckS s).2.1 != uu then some false else bif (tckS s).2.2.1 != 1 then some false else bif (tckS s).2.2.2.1 != 0 then some false else L_awk_0 f ((tckS s).1,want,(↑(i + 1) : Int)) else none) (fun f => (L_awk_0_eq f _ _ _).trans (by simp only [lt_dec (drop_lt hd),drop_get hd,wrap_succ (drop_lt hd) hl,getD_set (drop_lt hd),ge0,Bool.and_self,Bool.true_and,cond_true,cond_false,List.length_set] <;> rfl)) (ev_chk (ev_bif ev_some (ev_bif ev_some (ev_bif ev_some (ev_bif ev_some (A_awk_0 rest _ _ _ (by first | exact drop_succ hd | exact drop_set hd | exact drop_setS (drop_set hd)) (by first | exact hl | simpa using hl)))))))
noncomputable def F_awk : Unit → Bool
 | () => F_awk_0 [1,1,0,0,1,1,0,0] ((addS ((addS ((0,0,[]),1,0,4,2)).1,0,1,0,0)).1,[1,1,0,0,1,1,0,0],0)
noncomputable def P_awk : Unit → Bool
 | () => decide ([1,1,0,0,1,1,0,0].length ≤ 1099511627776) && P_awk_0 [1,1,0,0,1,1,0,0] ((addS ((addS ((0,0,[]),1,0,4,2)).1,0,1,0,0)).1,[1,1,0,0,1,1,0,0],0)
theorem awk_auto : ∀ a : Unit,Rns (fun f => M_awk f a) (P_awk a) (F_awk a)
 | () => ev_step (fun f => M_awk_eq f ) (ev_and fun hh => A_awk_0 _ _ _ _ rfl (of_decide_eq_true hh))
theorem awk_P : ∀ a : Unit,(fun _ => true : Unit → Bool) a = true → P_awk a = true := fun _ _ => (by decide +kernel : P_awk () = true)
theorem awk_F : ∀ a : Unit,(fun _ => true : Unit → Bool) a = true → F_awk a = (fun _ => true : Unit → Bool) a := fun _ _ => (by decide +kernel : F_awk () = true)
theorem awk_run : ∀ a,(fun _ => true : Unit → Bool) a = true → ∃ f,M_awk f a = some ((fun _ => true : Unit → Bool) a) := fun a h => by have h1 := awk_auto a (awk_P a h); rw [awk_F a h] at h1; exact h1
noncomputable def E_awk : Ent := ⟨10,[],[.v (.bool)],fun a => (fun _ => true : Unit → Bool) a,fun a => (fun _ => true : Unit → Bool) a⟩
theorem E_awk_ok : E_awk.Ok Try.prog := fun a hp vs hv => (awk_run a hp).elim fun f h => fnX_ok (C := C_awk) (Lt := Lt_awk) (fn := Try.f10) (rs := [.tmp 0]) [] [.v (.bool)] mixed es_awk Try.func10 rfl rfl rfl (by kernel_rfl) (by kernel_rfl) f h vs hv
end Go.AL

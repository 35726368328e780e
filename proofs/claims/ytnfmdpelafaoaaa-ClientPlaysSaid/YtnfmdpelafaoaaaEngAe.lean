/- The engine, part Ae: a slice that is nil, or not.
   Conditions: none. -/
import Derived.Test.YtnfmdpelafaoaaaEngAd
set_option linter.unusedSimpArgs false
set_option linter.unusedVariables false
namespace Go.Eng
open Go.RowKit
section
variable {P : Program} {T : Tab}
theorem stdA_tree (hT : TabAll P T) (hm : P.follows .mixedOrders = true) {n : Nat} {f : FuncId} {t t' : TS} {x y : EN} {args : List AV} (hargs : (keysL args).all (Nat.blt · t.m) = true)
    (H : (callW P (codeT P T n) f args (t.heap x) t.m (outV t.m t')).Holds fun e => t'.eqv e y) : StdN P f t.m (t.objs x) args t'.m (t'.objs y) (resV (t'.vals y)) := by
  intro E w hU
  obtain ⟨o, h1, h2⟩ := H
  rw [callW_nat (runD := codeD P T n) (fun f nt c τ h key K => codeT_sel n f nt c τ h key K)] at h1
  obtain ⟨⟨v0, H0, key'⟩, hc, h1⟩ := obind_some h1
  dsimp only [outV] at h1
  split at h1
  · rename_i hkey hres
    have hkey := Nat.le_of_ble_eq_true hkey
    split at h1
    · rename_i q hq
      obtain ⟨hms, h1⟩ := mustAll_sel h1
      cases h1
      have M := matS_ok hq
      obtain ⟨hge, W, hW, _⟩ := call_grows hT n f args _ t.m v0 H0 key' hc
      have := call_sound hT hm n f args _ t.m v0 H0 key' W hc hW (· < t.m) E _ w _ hU rfl (fun k h1 _ h2 => by omega) (fun E' hE => congrArg List.toArray (denL_cl hE args (lt_of_all hargs)).symm)
      refine this.mono ?_
      rintro e w' ⟨val, E1, rfl, g1, g2, g3⟩
      have hW : H0 = W ++ mkHeap (t.objs x) := hW
      rw [← lookOf_append, ← hW] at g2 g3
      refine ⟨viaN E1 (lkN q.φ), ?_, fun k hk => ?_, eqvH_relU h2.2 (M.relU hms g2 (fun _ _ _ => rfl) (fun _ _ => rfl)), (g3.wext.trans (M.wext hms E1 w')).trans (eqvH_wext h2.2)⟩
      · have hl := getA_length M.a
        rw [g1 E1 (Agree.refl _ _), ← res_unres hres hl]
        refine congrArg Ending.returned (den_resV _ _ ?_)
        rw [getA_den M.a E1]
        unfold TS.vals
        rw [eqvA_inst h2.1]
      · have h1 := g3.agree k hk
        have hn : isNil k = false := isNil_lt (by omega)
        simp only [Env.via, nilExt, M.pre k hk, hn]
        exact h1
    · cases h1
  · cases h1
/-- A call on one slice: by whether it is nil. -/
theorem StdN.nilOr {f : FuncId} {m m' : Nat} {l l' : List (Nat × AObj)} {v : AV} {len : SI} {sz : Nat} {rows : Nat → List AV} {g : Option Nat} (h0 : hget 0 (mkHeap l) = some (.lst len sz rows g))
    (H1 : len.v = 0 → StdN P f m l [.nils] m' l' v) (H2 : StdN P f m l [.slN 0] m' l' v) : StdN P f m l [.sl 0] m' l' v := by
  intro E w hU
  obtain ⟨a1, a2, a3⟩ := hU.here.obj 0 _ h0
  cases hd : (E.hdr 0).1 with
  | none =>
    have hc : (E.hdr 0).2.2 = 0 := by
      by_cases h : 0 < (E.hdr 0).2.2
      · obtain ⟨B, off, e, _⟩ := a3 h
        rw [hd] at e; cases e
      · omega
    have hn : (E.hdr 0).2.1 = 0 := by omega
    have e : denL E [.sl 0] = denL E [.nils] := by simp only [denL, den, hd, hc, hn]
    rw [e]
    exact H1 (by rw [← a1, hn]; rfl) E w hU
  | some a =>
    have e : denL E [.sl 0] = denL E [.slN 0] := by simp only [denL, den, hd, Option.getD_some]
    rw [e]
    exact H2 E w hU
end
end Go.Eng

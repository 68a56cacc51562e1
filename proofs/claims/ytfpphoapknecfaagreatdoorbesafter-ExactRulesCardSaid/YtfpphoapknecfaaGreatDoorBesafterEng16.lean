/- General rules for stepping through a function: no program stands in them. -/
import Derived.Test.YtfpphoapknecfaaGreatDoorBesafterEng15
namespace Go.Eng
open Go Go.RowKit Go.ChangeShapes Go.WideShapes
variable {D : List Deferred}

section
variable {P : Program} {f : FuncId} {n : Nat} {R : Ending → World → Prop} {k : List Item} {σ : Env} {w w0 : World} {L : List Seg}
/-- Three results, the middle one in a cell. -/
theorem J.rettct {fn : Func} {a t T b o i sz u s : Nat} {l vs : List Value} {x y : Value} (hf : P.funcs[f]? = some fn) (h : fn.results = #[.tmp u, .cell a t, .tmp s]) (H : Hp w0 w L) (hp : ev n σ (.tmp a) = .pointer (some ⟨b, o, none⟩)) (hi : L[i]? = some [(b, cel l T)])
    (hv : readN l o sz = some vs) (ht : aggOf P t = some sz) (hx : ev n σ (.tmp u) = x) (hy : ev n σ (.tmp s) = y) (hR : R (.returned (.tuple #[x, .agg vs.toArray, y])) w) : J [] P (.fn f) n R (.code .ret :: k) σ w :=
  J.ret_of hf (fun a' ha => by
    have h1 := ha.tmp a
    have h2 := ha.tmp u
    have h3 := ha.tmp s
    rw [hp, Array.getD_eq_getD_getElem?] at h1
    rw [hx, Array.getD_eq_getD_getElem?] at h2
    rw [hy, Array.getD_eq_getD_getElem?] at h3
    simp [results, h, h1, h2, h3, asAddr, run_loadAgg H hi hv ht]) hR
end
end Go.Eng

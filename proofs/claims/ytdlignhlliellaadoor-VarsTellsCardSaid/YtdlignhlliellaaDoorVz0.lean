/- Build's plain form in words that the kernel can reckon with; its names are there once each. -/
import Derived.Test.YtdlignhlliellaaDoorVy
import Derived.KernelRfl
namespace Go.Proofs.YtdlignhlliellaaDoor
set_option linter.unusedVariables false
set_option linter.unusedSimpArgs false
open Go.RowKit

def ap (a b : ByteArray) : ByteArray := mk (L a ++ L b)
theorem ap_eq (a b : ByteArray) : a ++ b = ap a b := L_inj (by unfold ap; rw [L_mk, L_app])
def xt (p : ByteArray) (i j : Nat) : ByteArray := mk (((L p).take j).drop i)
theorem xt_eq (p : ByteArray) (i j : Nat) : p.extract i j = xt p i j := L_inj (by rw [L_ext]; unfold xt; rw [L_mk])
def eqE (a b : ByteArray) : Bool := L a == L b
theorem eqE_eq : eqB = eqE := by funext a b; exact eqB_L a b
def cutE (s : ByteArray) (c : UInt8) : ByteArray × ByteArray × Bool :=
  if 0 ≤ Lib.indexByte (L s) c then (xt s 0 (Lib.indexByte (L s) c).toNat, xt s ((Lib.indexByte (L s) c).toNat + 1) s.size, true) else (s, ⟨#[]⟩, false)
theorem cutE_eq : cutS = cutE := by funext s c; unfold cutS cutE; rw [xt_eq, xt_eq]
def hasE (l : List Pr) (nm : ByteArray) : Bool := l.any fun p => eqE p.1 nm
theorem hasE_eq : hasN = hasE := by funext l nm; unfold hasN hasE; rw [eqE_eq]
def addE (l : List Pr) (nm v : ByteArray) : List Pr := if hasE l nm then l else l ++ [(nm, v)]
theorem addE_eq : addL = addE := by funext l nm v; unfold addL addE; rw [hasE_eq]
def getE (l : List Pr) (name : ByteArray) : List ByteArray := (l.filter fun p => eqE (lowB p.1) (lowB name)).map (·.2)
theorem getE_eq : getS = getE := by funext l nm; unfold getS getE; rw [eqE_eq]
def someE (l : List Pr) (nm v : ByteArray) : List Pr := if (L v).isEmpty then l else addE l nm v
theorem someE_eq : someL = someE := by funext l nm v; unfold someL someE; rw [addE_eq, toList_L]
def keptE (s : ByteArray) : Bool := keptL.any (eqE (lowB s))
theorem keptE_eq : isKept = keptE := by funext s; unfold isKept hasB keptE; rw [eqE_eq]
def sepE (n : ByteArray) : ByteArray := if eqE n ⟨#[72, 84, 84, 80, 95, 67, 79, 79, 75, 73, 69]⟩ then ⟨#[59, 32]⟩ else ⟨#[44, 32]⟩
theorem sepE_eq : sepB = sepE := by funext n; unfold sepB sepE; rw [eqE_eq]
def nmE (s : ByteArray) : ByteArray := ap ⟨#[72, 84, 84, 80, 95]⟩ (greatB s)
theorem nmE_eq : nmB = nmE := by funext s; unfold nmB nmE; rw [ap_eq]
def addFE (own : List Pr) (n v : ByteArray) : List Pr := match own.findIdx? (fun p => eqE p.1 n) with
  | some i => own.modify i (fun p => (p.1, ap p.2 (ap (sepE n) v)))
  | none => own ++ [(n, v)]
theorem addFE_eq : addF = addFE := by
  funext own n v
  unfold addF addFE
  rw [eqE_eq, sepE_eq]
  have : ∀ p : Pr, (p.1, p.2 ++ (sepE n ++ v)) = (p.1, ap p.2 (ap (sepE n) v)) := fun p => by rw [ap_eq (sepE n) v, ap_eq p.2]
  simp only [this]
  cases List.findIdx? (fun p => eqE p.1 n) own <;> rfl
def stepE (own : List Pr) (f : Pr) : List Pr := if keptE f.1 then own else addFE own (nmE f.1) f.2
def fieldsE (l : List Pr) : List Pr := l.foldl stepE []
theorem fieldsE_eq : fieldsL = fieldsE := by
  have h : stepF = stepE := by funext a b; unfold stepF stepE; rw [keptE_eq, addFE_eq, nmE_eq]
  funext l; unfold fieldsL fieldsE; rw [h]
def hostE (h : ByteArray) : ByteArray := lowB (cutE h 58).1
theorem hostE_eq : hostS = hostE := by funext h; unfold hostS hostE; rw [cutE_eq]
def serverE (name : ByteArray) (l : List Pr) : ByteArray := match getE l ⟨#[72, 111, 115, 116]⟩ with
  | [] => name
  | h :: _ => if (L (hostE h)).isEmpty then name else hostE h
theorem serverE_eq : serverS = serverE := by
  funext n l
  unfold serverS serverE
  rw [getE_eq, hostE_eq]
  simp only [toList_L]
  cases getE l ⟨#[72, 111, 115, 116]⟩ <;> rfl
def rouE (ns : List Pr) (l : List Pr) : List Pr := ns.foldl (fun a p => addE a (ap ⟨#[82, 79, 85, 84, 69, 95]⟩ (greatB p.1)) p.2) l
theorem rouE_eq : rouL = rouE := by funext ns l; unfold rouL rouE; simp only [addE_eq, ap_eq]
def ctE (vs : List ByteArray) (l : List Pr) : List Pr := vs.foldl (fun a v => addE a ⟨#[67, 79, 78, 84, 69, 78, 84, 95, 84, 89, 80, 69]⟩ v) l
theorem ctE_eq : ctL = ctE := by funext ns l; unfold ctL ctE; rw [addE_eq]
def E1 (x1 : ByteArray) (r : Req) : List Pr := if (L r.bd).isEmpty then [] else addE [] ⟨#[67, 79, 78, 84, 69, 78, 84, 95, 76, 69, 78, 71, 84, 72]⟩ x1
def E4 (x1 : ByteArray) (r : Req) (inf : ByteArray) : List Pr := addE (someE (addE (ctE (getE r.fl ⟨#[67, 111, 110, 116, 101, 110, 116, 45, 84, 121, 112, 101]⟩) (E1 x1 r)) ⟨#[71, 65, 84, 69, 87, 65, 89, 95, 73, 78, 84, 69, 82, 70, 65, 67, 69]⟩ ⟨#[67, 71, 73, 47, 49, 46, 49]⟩) ⟨#[80, 65, 84, 72, 95, 73, 78, 70, 79]⟩ inf) ⟨#[81, 85, 69, 82, 89, 95, 83, 84, 82, 73, 78, 71]⟩ (cutE r.tg 63).2.1
def E8 (x1 x2 : ByteArray) (r : Req) (sc inf : ByteArray) : List Pr := addE (addE (addE (addE (E4 x1 r inf) ⟨#[82, 69, 77, 79, 84, 69, 95, 65, 68, 68, 82]⟩ (ap ⟨#[49, 48, 46, 48, 46, 48, 46]⟩ x2)) ⟨#[82, 69, 81, 85, 69, 83, 84, 95, 77, 69, 84, 72, 79, 68]⟩ r.m) ⟨#[82, 69, 81, 85, 69, 83, 84, 95, 85, 82, 73]⟩ r.tg) ⟨#[83, 67, 82, 73, 80, 84, 95, 78, 65, 77, 69]⟩ sc
def E12 (nm x1 x2 x3 x4 : ByteArray) (r : Req) (sc inf : ByteArray) : List Pr := addE (addE (addE (addE (E8 x1 x2 r sc inf) ⟨#[83, 69, 82, 86, 69, 82, 95, 78, 65, 77, 69]⟩ (serverE nm r.fl)) ⟨#[83, 69, 82, 86, 69, 82, 95, 80, 79, 82, 84]⟩ x3) ⟨#[83, 69, 82, 86, 69, 82, 95, 80, 82, 79, 84, 79, 67, 79, 76]⟩ (ap ⟨#[72, 84, 84, 80, 47, 49, 46]⟩ x4)) ⟨#[83, 69, 82, 86, 69, 82, 95, 83, 79, 70, 84, 87, 65, 82, 69]⟩ ⟨#[99, 111, 110, 100, 117, 105, 116]⟩
def buildE (nm x1 x2 x3 x4 : ByteArray) (r : Req) (sc inf : ByteArray) (ns : List Pr) : List Pr := (fieldsE r.fl).foldl (fun a p => addE a p.1 p.2) (rouE ns (E12 nm x1 x2 x3 x4 r sc inf))
theorem build_E (nm : ByteArray) (p cl : Int) (r : Req) (sc inf : ByteArray) (ns : List Pr) {x1 x2 x3 x4 : ByteArray} (h1 : r.bd.toList.isEmpty = true ∨ itoaB (r.bd.size : Int) = x1) (h2 : itoaB (cl + 1) = x2) (h3 : itoaB p = x3) (h4 : itoaB r.mn = x4) :
    buildL nm p cl r sc inf ns = buildE nm x1 x2 x3 x4 r sc inf ns := by
  have e1 : L1 r = E1 x1 r := by
    unfold L1 E1
    rcases h1 with h | h
    · rw [h, if_pos rfl]; rw [toList_L] at h; rw [h, if_pos rfl]
    · rw [h, toList_L, addE_eq]
  unfold buildL buildE L12 E12 L8 E8 L4 E4
  rw [e1, h2, h3, h4, fieldsE_eq, rouE_eq, ctE_eq, getE_eq, addE_eq, someE_eq, serverE_eq, cutE_eq, ap_eq ⟨#[49, 48, 46, 48, 46, 48, 46]⟩ x2, ap_eq ⟨#[72, 84, 84, 80, 47, 49, 46]⟩ x4]
def getVE (l : List Pr) (n : ByteArray) : Option ByteArray := (l.find? fun p => eqE p.1 n).map (·.2)
theorem getVE_eq : getV = getVE := by funext l n; unfold getV getVE; rw [eqE_eq]
def Nd (l : List Pr) : Prop := (l.map (·.1)).Nodup
theorem Nd.add {l : List Pr} (h : Nd l) (n v : ByteArray) : Nd (addL l n v) := addL_nodup h
theorem Nd.some_ {l : List Pr} (h : Nd l) (n v : ByteArray) : Nd (someL l n v) := by unfold someL; split; exact h; exact h.add _ _
theorem Nd.fold {α : Type} (f g : α → ByteArray) : ∀ (x : List α) {l : List Pr}, Nd l → Nd (x.foldl (fun a p => addL a (f p) (g p)) l)
  | [], _, h => h
  | p :: x, _, h => by rw [List.foldl_cons]; exact Nd.fold f g x (h.add _ _)
theorem buildL_nd (nm : ByteArray) (p cl : Int) (r : Req) (sc inf : ByteArray) (ns : List Pr) : Nd (buildL nm p cl r sc inf ns) := by
  have h1 : Nd (L1 r) := by
    unfold L1
    split
    · exact List.nodup_nil
    · exact Nd.add (show Nd [] from List.nodup_nil) _ _
  unfold buildL L12 L8 L4
  refine Nd.fold (fun q : Pr => q.1) (fun q : Pr => q.2) _ ?_
  unfold rouL
  refine Nd.fold (fun p : Pr => ⟨#[82, 79, 85, 84, 69, 95]⟩ ++ greatB p.1) (fun q : Pr => q.2) _ ?_
  refine Nd.add (Nd.add (Nd.add (Nd.add (Nd.add (Nd.add (Nd.add (Nd.add (Nd.add (Nd.some_ (Nd.add ?_ _ _) _ _) _ _) _ _) _ _) _ _) _ _) _ _) _ _) _ _) _ _
  unfold ctL
  exact Nd.fold (fun _ => ⟨#[67, 79, 78, 84, 69, 78, 84, 95, 84, 89, 80, 69]⟩) (fun v => v) _ h1
theorem itoa2 : itoaB 2 = ⟨#[50]⟩ := by rw [show (2 : Int) = ((2 : Nat) : Int) from rfl, itoaB_nat, decB_small 2 (by decide)]; rfl
theorem itoa3 : itoaB 3 = ⟨#[51]⟩ := by rw [show (3 : Int) = ((3 : Nat) : Int) from rfl, itoaB_nat, decB_small 3 (by decide)]; rfl
theorem itoa80 : itoaB 80 = ⟨#[56, 48]⟩ := by rw [show (80 : Int) = ((80 : Nat) : Int) from rfl, itoaB_nat, decB_big 80 (by decide), decB_small (80 / 10) (by decide)]; exact L_inj (by rw [L_app]; rfl)
/-! ### the known request -/
def knR : Req := ⟨⟨#[80, 79, 83, 84]⟩, ⟨#[47, 97, 47, 98, 63, 113]⟩, 1, [(⟨#[72, 111, 115, 116]⟩, ⟨#[72, 58, 49]⟩), (⟨#[65, 99, 99, 101, 112, 116]⟩, ⟨#[120]⟩), (⟨#[97, 99, 99, 101, 112, 116]⟩, ⟨#[121]⟩), (⟨#[80, 114, 111, 120, 121]⟩, ⟨#[101, 118, 105, 108]⟩), (⟨#[67, 111, 110, 116, 101, 110, 116, 45, 84, 121, 112, 101]⟩, ⟨#[116]⟩)], ⟨#[120, 121]⟩⟩
def knL : List Pr := buildE ⟨#[108, 111, 99, 97, 108]⟩ ⟨#[50]⟩ ⟨#[51]⟩ ⟨#[56, 48]⟩ ⟨#[49]⟩ knR ⟨#[47, 97]⟩ ⟨#[47, 98]⟩ [(⟨#[105, 100]⟩, ⟨#[55]⟩)]
theorem kn_eq : buildL ⟨#[108, 111, 99, 97, 108]⟩ 80 2 knR ⟨#[47, 97]⟩ ⟨#[47, 98]⟩ [(⟨#[105, 100]⟩, ⟨#[55]⟩)] = knL := build_E _ _ _ _ _ _ _ (.inr itoa2) itoa3 itoa80 itoa1
theorem kn_len : knL.length < 20 := by have : knL.length = 15 := by kernel_rfl
                                       omega
theorem kn1 : getVE knL ⟨#[72, 84, 84, 80, 95, 65, 67, 67, 69, 80, 84]⟩ = some ⟨#[120, 44, 32, 121]⟩ := by kernel_rfl
theorem kn2 : getVE knL ⟨#[83, 69, 82, 86, 69, 82, 95, 78, 65, 77, 69]⟩ = some ⟨#[104]⟩ := by kernel_rfl
theorem kn3 : getVE knL ⟨#[67, 79, 78, 84, 69, 78, 84, 95, 76, 69, 78, 71, 84, 72]⟩ = some ⟨#[50]⟩ := by kernel_rfl
theorem kn4 : getVE knL ⟨#[72, 84, 84, 80, 95, 80, 82, 79, 88, 89]⟩ = none := by kernel_rfl
theorem kn5 : getVE knL ⟨#[82, 69, 77, 79, 84, 69, 95, 65, 68, 68, 82]⟩ = some ⟨#[49, 48, 46, 48, 46, 48, 46, 51]⟩ := by kernel_rfl
theorem kn6 : getVE knL ⟨#[82, 79, 85, 84, 69, 95, 73, 68]⟩ = some ⟨#[55]⟩ := by kernel_rfl
theorem kn7 : getVE knL ⟨#[80, 65, 84, 72, 95, 73, 78, 70, 79]⟩ = some ⟨#[47, 98]⟩ := by kernel_rfl
theorem kn8 : nmE ⟨#[88, 45, 97, 46, 98]⟩ = ⟨#[72, 84, 84, 80, 95, 88, 95, 65, 95, 66]⟩ := by kernel_rfl
theorem perm_get {l' l : List Pr} {nm : ByteArray} {p cl : Int} {r : Req} {sc inf : ByteArray} {ns : List Pr} (he : buildL nm p cl r sc inf ns = l) (hp : l'.Perm l) (n : ByteArray) : getV l' n = getVE l n := by
  rw [← getVE_eq]
  refine getV_perm hp ?_ n
  rw [← he]
  exact buildL_nd _ _ _ _ _ _ _
end Go.Proofs.YtdlignhlliellaaDoor

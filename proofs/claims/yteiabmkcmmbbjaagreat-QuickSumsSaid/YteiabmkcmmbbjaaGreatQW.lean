/- The walks in use. Conditions: none. -/
import Derived.Test.YteiabmkcmmbbjaaGreatQ3W3
